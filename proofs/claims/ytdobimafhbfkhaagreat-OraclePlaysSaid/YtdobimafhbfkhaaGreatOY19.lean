/- The tree: Range, and what it hands back, and what follows. -/
import Derived.Test.YtdobimafhbfkhaaGreatOY16
import Derived.Test.YtdobimafhbfkhaaGreatOY18
set_option maxHeartbeats 64000000
namespace Go.Proofs.YtdobimafhbfkhaaGreat
open Go.ChangeShapes Go.WideShapes Go.ChangeAt Go.RowKit
set_option maxRecDepth 100000
set_option linter.unusedSimpArgs false
theorem TreeA.pool {B w:World}{D E:PH}{t:Nat}{T:TM}{l:List HP}(h:TreeA B D w t T l)(hE:PH.le (cellsOf (aB w)) E):TreeP E t T:=by
 obtain⟨nv,fv,ns,hns,hs⟩:=h;refine⟨nv,fv,ns,hns,fun W hW=>⟨[],Sat.inPool (l:=[blk t (aM nv fv T.k) tT,aD tN 4 nv ns.length (ns.flatMap aG),be fv T.free,aY (ns.map bV)]) (l':=l) hs ?_ hE hW⟩⟩;intro A hA;simp only [Gl,List.not_mem_nil,or_false]at hA;rcases hA with rfl|rfl|rfl|rfl
 ·exact kJ _ _ _
 ·exact eX _ _ _ _ _
 ·exact eX _ _ _ _ _
 ·refine fV (fun A hA=>?_)
  obtain⟨p,_,rfl⟩:=List.mem_map.1 hA;refine fV (fun A hA=>?_);simp only [Gl,List.not_mem_nil,or_false]at hA;rcases hA with rfl|rfl|rfl<;>exact eX _ _ _ _ _
theorem TreeA.own_new {B w w':World}{D:PH}{t:Nat}{T:TM}{l:List HP}{e:TypeId}{size n:Nat}{v:Value}{xs:List Value}(h:TreeA B D w t T l)(k:Kept (fun _=>False) w w')(H:Own w' e size v n xs)(hn:∀g,v.ownBlock=some g→w.heap.size≤g):TreeA B D w' t T (aD e size v n xs::l):=by
 obtain⟨nv,fv,ns,hns,hs⟩:=h;exact⟨nv,fv,ns,hns,(Sat.own_new hs k H hn).perm (Ge (l₁:=[blk t (aM nv fv T.k) tT,aD tN 4 nv ns.length (ns.flatMap aG),be fv T.free,aY (ns.map bV)]) (a:=aD e size v n xs) (l₂:=l)).symm⟩
def TM.Tells (T:TM)(s:Spn)(q:List (Val×VT)):Prop:=(q = []∧(T.k.root<0∨s.no=true))∨∃r:Nat,T.k.root=(r:Int)∧s.no=false∧T.Walks s r q
abbrev rngV (b1 b2:Nat):Value:=.func (.func 84) #[] #[.pointer (some ⟨b1,0,none⟩),.pointer (some ⟨b2,0,none⟩)]
theorem infoSeq : Tryz.prog.underlying 131=some (.func #[142] #[] false):=by kernel_rfl
theorem iC {P:Program}(w:World)(d:Nat)(t:TypeId)(ps rs:Array TypeId)(v:Bool)(f:Fn)(x y:Array Value)(h:P.underlying t=some (.func ps rs v)) :
  (Op.equalIn (d+1) t (.func f x y) .nilFunc).run P w = .ok false w:=by
 simp [Op.equalIn,run_underlying h]
theorem kn {P:Program}(w:World)(t:TypeId)(ps rs:Array TypeId)(v:Bool)(f:Fn)(x y:Array Value)(h:P.underlying t=some (.func ps rs v)) :
  (binOp .eql t (.func f x y) .nilFunc).run P w = .ok (.bool false) w:=by
 simp only [binOp];simp [Op.equal,Op.maxDepth,iC w 9999 t ps rs v f x y h]
@[go_sem] theorem run_eql_rng (w:World)(b1 b2:Nat):(binOp .eql 131 (rngV b1 b2) .nilFunc).run Tryz.prog w = .ok (.bool false) w:=kn _ _ _ _ _ _ _ _ infoSeq
theorem uI (p:Option Addr)(s:Spn)(w:World) :
  Calls Tryz.prog 61 #[.pointer p,s.v] w fun e w'=>∃b1 b2,e = .returned (rngV b1 b2)∧Kept (fun _=>False) w w'∧w'.heap[b1]?=some (.cells #[.pointer p] 85 (0,0))∧w'.heap[b2]?=some (.cells s.cells tS (0,0))∧w.heap.size≤b1∧w.heap.size≤b2:=by
 have hk:Kept (fun _=>False) w ((w.alloc (.cells #[.pointer p] 85)).alloc (.cells s.cells tS)):=((Kept.refl _ _).alloc _).alloc _;have h1:((w.alloc (.cells #[.pointer p] 85)).alloc (.cells s.cells tS)).heap[w.heap.size]?=some (.cells #[.pointer p] 85 (0,0)):=de (ak w _);have h2:((w.alloc (.cells #[.pointer p] 85)).alloc (.cells s.cells tS)).heap[w.heap.size+1]?=some (.cells s.cells tS (0,0)):=by
  have:=ak (w.alloc (.cells #[.pointer p] 85)) (.cells s.cells tS)
  rwa [World.size_alloc]at this
 have HK:=FH (And.intro hk (And.intro h1 h2));clear hk h1 h2;dsimp only [Spn.v];go_enter Tryz.func61,Tryz.ntmps61;go_wp2_with (fail);go_ret;exact⟨_,_,rfl,HK.out.1,HK.out.2.1,HK.out.2.2,Gn _,Nat.le_succ _⟩
theorem ui {n₀:Nat}{Ow:World→Nat→Prop}(hO:Owner n₀ Ow){t l b1 b2:Nat}{T:TM}{s:Spn}{q:List (Val×VT)}{J Jx:List (Val×VT)→World→Prop}{D:PH}
  (hJ:∀pre W W',J pre W→Kept (fun _=>False) W W'→J pre W')
  (hY:∀n pre x W,J pre W→pre ++ [x] <+: q→YieldAt Fence.wide n Tryz.prog l #[x.1.v,x.2.v] W fun e W'=>(e = .returned (.bool true)∧J (pre ++ [x]) W'∧KpO Ow W W')∨(e = .returned (.bool false)∧Jx (pre ++ [x]) W'))
  (hT:TreeP D t T) (hw:T.Tells s q) (h1:D b1=some (.cells #[.pointer (some ⟨t,0,none⟩)] 85 (0,0))) (h2:D b2=some (.cells s.cells tS (0,0))) (W:World) (hj:J [] W) (hit:ItOk n₀ Ow D W) :
  Calls Tryz.prog 84 #[.func (.yield l) #[] #[],.pointer (some ⟨b1,0,none⟩),.pointer (some ⟨b2,0,none⟩)] W fun e W'=>(∃v,e = .returned v)∧((∃xs,xs=q∧J xs W')∨(∃pre,pre <+: q∧Jx pre W')):=by
 obtain⟨p0,pf⟩:=aC (hit.le _ _ h1);obtain⟨s0,s1,s2,s3,s4,s5,s6,s7,s8,s9,s10⟩:=Spn.at (s:=s) (hit.le _ _ h2);have hTt:=hT;obtain⟨nv,fv,ns,hns,hTS⟩:=hTt;obtain⟨l0,hs0⟩:=hTS W hit.le;obtain⟨t0,t1,t2,t3,t4,tf⟩:=hs0.tcells;have HJ:=FH hj;rcases hw with ⟨rfl,hroot|hno⟩|⟨r,hroot,hno,hwk⟩
 ·have hr0:¬(T.k.root ≥ 0):=by omega
  clear hJ hY hs0 hTS hns hit h1 h2 hT hj hO;go_enter Tryz.func84,Tryz.ntmps84;go_wp2_with (fail);go_end0
  first
  | exact⟨⟨_,rfl⟩,.inl ⟨_,rfl,HJ.out⟩⟩
  | exact⟨⟨_,rfl⟩,.inl HJ.out⟩
 ·rw [hno]at s0
  clear hJ hY hs0 hTS hns hit h1 h2 hT hj hO;by_cases hr0:T.k.root ≥ 0
  all_goals
   go_enter Tryz.func84,Tryz.ntmps84;go_wp2_with (fail);go_end0
   first
   | exact⟨⟨_,rfl⟩,.inl ⟨_,rfl,HJ.out⟩⟩
   | exact⟨⟨_,rfl⟩,.inl HJ.out⟩
 ·rw [hno]at s0
  rw [hroot]at t2;have hr0:(r:Int) ≥ 0:=by omega
  have EX:=FH (ru (V:=fun p=>p <+: q) hO hJ hY hwk D hT [] W.drew (hJ _ _ _ hj ((Kept.refl _ _).drew)) (fun p hp=>by simpa using hp) (hit.kept hO ((Kept.refl _ _).drew)));clear hJ hY hs0 hTS hns hit h1 h2 hT hj hO hwk;go_enter Tryz.func84,Tryz.ntmps84;go_upto_region 1 with (fail)
  rw [←hno]at s0;clear hno;refine aH [rq 0 7,rq 1 7,rq 2 7,rq 3 7,rq 4 7,rq 5 7,rq 6 7,(7,true,0)] ?_;iterate 7 (refine ae rfl rfl fun K hK=>?_;go_simp;apply hK;clear hK K)
  refine af rfl ?_;refine al rfl fun K hK=>?_;go_simp;refine EX.out.mono ?_;rintro e6 w6 (⟨rfl,h,-⟩|⟨rfl,p,hp,h⟩)
  ·have H6:=FH (Or.inl ⟨q,rfl,h⟩:(∃xs,xs=q∧J xs w6)∨(∃pre,pre <+: q∧Jx pre w6))
   clear h s0 s1 s2 s3 s4 s5 s6 s7 s8 s9 s10 t0 t1 t2 t3 t4 tf p0 pf;refine hK _ _ ?_;clear hK K;refine wpList_nil ?_;apply And.intro
   ·go_simp
   refine ag ?_;go_wp2_with fail;go_end0;exact⟨⟨_,rfl⟩,H6.out⟩
  ·have H6:=FH (Or.inr ⟨p,hp,h⟩:(∃xs,xs=q∧J xs w6)∨(∃pre,pre <+: q∧Jx pre w6))
   clear h s0 s1 s2 s3 s4 s5 s6 s7 s8 s9 s10 t0 t1 t2 t3 t4 tf p0 pf;refine hK _ _ ?_;clear hK K;refine wpList_nil ?_;apply And.intro
   ·go_simp
   refine ag ?_;go_wp2_with fail;go_end0;exact⟨⟨_,rfl⟩,H6.out⟩
theorem tZ {n₀:Nat}{Ow:World→Nat→Prop}(hO:Owner n₀ Ow){t b1 b2:Nat}{T:TM}{s:Spn}{q:List (Val×VT)}{D:PH}{w:World}(n:Nat)
  (hT:TreeP D t T) (hw:T.Tells s q) (h1:D b1=some (.cells #[.pointer (some ⟨t,0,none⟩)] 85 (0,0))) (h2:D b2=some (.cells s.cells tS (0,0))) (hit:∀W,Below w.heap.size w W→ItOk n₀ Ow D W) :
  uT Fence.wide n Tryz.prog 84 #[.pointer (some ⟨b1,0,none⟩),.pointer (some ⟨b2,0,none⟩)] (fun x:Val×VT=>#[x.1.v,x.2.v]) (KpO Ow) (fun pre x _ _=>pre ++ [x] <+: q) (fun xs=>xs=q) (fun pre=>pre <+: q) w:=fun l J Jx W hW hJ _ hY h0 =>
 callsIn_wide.2 (ui hO (fun pre W W' h k=>hJ pre W W' none h k.grown (fun r e=>by cases e)) (fun m pre x W hj hl=>Proofs.YtdobimafhbfkhaaGreat.YieldAt.anyDepth rfl m ((hY pre x W W hj (Kept.refl _ _) hl).mono (fun _ _ h=>h.2))) hT hw h1 h2 W h0 (hit W hW))
instance : Inhabited Kid:=⟨⟨0,[],[]⟩⟩
def inS (s:Spn)(L:PL):PL:=L.filter (fun p=>bI s p.1)
theorem sC (p:Nat→Bool):∀N,∃n,n≤N∧(∀j,j<n→0<j→p j=false)∧(n=N∨(0<n∧p n=true))
 | 0=>⟨0,Gn _,fun j h=>by omega,.inl rfl⟩
 | N+1=>by
  obtain⟨n,h1,h2,h3⟩:=sC p N;rcases h3 with rfl|h3
  ·by_cases h0:0<n∧p n=true
   ·exact⟨n,by omega,h2,.inr h0⟩
   ·refine⟨n+1,Gn _,fun j hj hj0=>?_,.inl rfl⟩
    by_cases he:j=n
    ·subst he
     cases hp:p j with
     | false=>rfl
     | true=>exact absurd ⟨hj0,hp⟩ h0
    ·exact h2 j (by omega) hj0
  ·exact⟨n,by omega,h2,.inr h3⟩
theorem mN (cs:List Kid)(g:Kid→PL):∀n,n≤cs.length→tells (fun j=>g (cs.getD j default)) n=(cs.take n).flatMap g
 | 0,_=>by simp [tells]
 | n+1,h=>by
  rw [aW,mN cs g n (by omega),List.take_succ_eq_append_getElem (by omega),FT];simp [FW,FP (show n<cs.length by omega)]
theorem nV {T:TM}{s:Spn}(hno:s.no=false):∀(d i:Nat) (L:PL) (ids:List Nat),Rep T.nodes d i L ids→(∀m,T.nodes[i]?=some m→m.size≤4)→T.Walks s i (inS s L)
 | 0,i,L,ids,⟨m,hm,h1,h2,h3,h4,h5⟩,hz=>by
  have hkl:m.keys.length≤4:=by have:=hz m hm;unfold NodeM.size at this;rw [h1,if_pos rfl]at this;exact this
  have:=TM.Walks.leaf (s:=s) hm h1 h3 (by omega);have e:m.tell s m.keys.length=inS s L:=by
   unfold NodeM.tell inS;rw [h4,FS (by rw [List.length_zip,h3];omega)]
  rw [e]at this;exact this
 | d+1,i,L,ids,⟨m,hm,h1,h2,cs,h3,h4,h5,h6,h7,h8,h9⟩,hz=>by
  have hkids:m.kids.length≤4:=by have:=hz m hm;unfold NodeM.size at this;rw [h1]at this;simpa using this
  have hkc:m.kids.length=cs.length:=by rw [h3,FZ]
  have hst:=lW m s;obtain⟨n,n1,n2,n3⟩:=sC (fun j=>m.past s (m.start s+j-1)) (cs.length-m.start s);have hlo:∀x∈(cs.take (m.start s)).flatMap Kid.L,bI s x.1=false:=by
   intro x hx;by_cases h0:m.start s=0
   ·rw [h0]at hx;simp at hx
   ·unfold NodeM.start at h0 hx
    cases hl:s.hasLo
    ·rw [hl]at h0;simp at h0
    ·rw [hl,if_pos rfl]at h0 hx
     have hb:=kt m.keys s.lo;obtain⟨y,hy⟩:∃y,m.keys[bu m.keys s.lo-1]?=some y:=⟨_,FP (by omega)⟩;have e1:=(h6 _ y hy).1 x (by rw [show bu m.keys s.lo-1+1=bu m.keys s.lo by omega];exact hx);have e2:=(iA s.lo h7 _ y hy).1 (by omega);have e3:=jI e1 e2;unfold bI gG;rw [hl];simp [e3]
  have hhi:∀x∈(cs.drop (m.start s+n)).flatMap Kid.L,bI s x.1=false:=by
   intro x hx;rcases n3 with n3|⟨n3,n4⟩
   ·rw [Gk (by omega)]at hx;simp at hx
   ·unfold NodeM.past at n4
    simp only [Bool.and_eq_true,decide_eq_true_eq]at n4;by_cases he:m.start s+n=cs.length
    ·rw [Gk (by omega)]at hx;simp at hx
    ·obtain⟨y,hy⟩:∃y,m.keys[m.start s+n-1]?=some y:=⟨_,FP (by omega)⟩
     rw [FW,hy]at n4;have e1:=(h6 _ y hy).2 x (by rw [show m.start s+n-1+1=m.start s+n by omega];exact hx);have e2:ai s.hi x.1<0:=jI ((eN _ _).1 n4.2) e1;have e3:=(eN x.1 s.hi).2 e2;unfold bI oB;rw [n4.1];have e4:decide (ai x.1 s.hi<0)=false:=by simp;omega
     have e5:decide (ai x.1 s.hi=0)=false:=by simp;omega
     rw [e4,e5];simp
  have key:=TM.Walks.inner (T:=T) (s:=s) hm h1 (by omega) (by omega) n (fun j=>inS s ((cs.drop (m.start s)).getD j default).L) (by omega) n2 (n3.imp (fun h=>by omega) (fun h=>h)) (fun j kid hj hk=>by
   rw [h3,Gg]at hk;obtain⟨c,hc⟩:∃c,cs[m.start s+j]?=some c:=⟨_,FP (by omega)⟩;rw [hc]at hk;cases hk;have hd:(cs.drop (m.start s)).getD j default=c:=by rw [FW,List.getElem?_drop,hc];rfl
   rw [hd];obtain⟨hr,m',hm',_,hf⟩:=h5 c (FQ hc);exact nV hno d c.id c.L c.ids hr (fun m'' hm''=>by rw [hm']at hm'';cases hm'';exact hf))
  have e:tells (fun j=>inS s ((cs.drop (m.start s)).getD j default).L) n=inS s L:=by
   rw [mN (cs.drop (m.start s)) (fun c=>inS s c.L) n (by rw [Ga];omega)];have e1:L=(cs.take (m.start s)).flatMap Kid.L++(((cs.drop (m.start s)).take n).flatMap Kid.L++(cs.drop (m.start s+n)).flatMap Kid.L):=by
    rw [h8,←List.drop_drop,←FT,Gj,←FT,Gj]
   rw [e1];unfold inS;rw [List.filter_append,List.filter_append,dG hlo,dG hhi,List.filter_flatMap];simp
  rw [e]at key;exact key
theorem Good.tells {T:TM}{L:PL}(h:Good T L)(s:Spn):T.Tells s (inS s L):=by
 rcases h.rep with ⟨h1,h2,_⟩|⟨r,d,ids,m,h1,h2,h3,h4,h5,h6,h7⟩
 ·exact .inl ⟨by rw [h2];rfl,.inl h1⟩
 ·cases hno:s.no
  ·exact .inr ⟨r,h1,hno,nV hno d r L ids h3 (fun m' hm'=>by rw [h5]at hm';cases hm';exact h7)⟩
  ·refine .inl ⟨?_,.inr hno⟩
   unfold inS;exact dG (fun x _=>by unfold bI;rw [hno];simp)
def TM.empty : TM:=⟨[],[],⟨-1,0,0⟩⟩
theorem rp : Good TM.empty []:=⟨by simp,by intro x hx;simp at hx,rfl,.inl ⟨by decide,rfl,rfl,by simp [TM.empty]⟩⟩
theorem New_ok {B w:World}{D:PH}{l:List HP}(h:Sat B D w l) :
  Calls Tryz.prog 37 #[] w fun e w'=>∃t,e = .returned (.pointer (some ⟨t,0,none⟩))∧TreeA B D w' t TM.empty l:=by
 have h1:=h.alloc (aM (.slice none 0 0) (.slice none 0 0) TM.empty.k) tT;have h2:Sat B D (w.alloc (.cells (aM (.slice none 0 0) (.slice none 0 0) TM.empty.k) tT)) (aY []::blk w.heap.size (aM (.slice none 0 0) (.slice none 0 0) TM.empty.k) tT::l):=Sat.togroup (L:=[]) h1;have h3:=(h2.own_nil tI 1).own_nil tN 4;have h4:TreeA B D (w.alloc (.cells (aM (.slice none 0 0) (.slice none 0 0) TM.empty.k) tT)) w.heap.size TM.empty l :=
  ⟨.slice none 0 0,.slice none 0 0,[],rfl,(h3.perm (Ge (l₁:=[aD tN 4 (.slice none 0 0) 0 [],aD tI 1 (.slice none 0 0) 0 [],aY []]) (l₂:=l)))⟩
 have H:=FH h4;clear h h1 h2 h3 h4;go_enter Tryz.func37,Tryz.ntmps37;go_wp2_with fail;go_ret;exact⟨_,rfl,H.out⟩
theorem TreeA.end_ {B w:World}{D:PH}{t:Nat}{T:TM}{l:List HP}(h:TreeA B D w t T l)(hD:PH.le (aB B) D):Kept (fun _=>False) B w:=by
 obtain⟨nv,fv,ns,hns,hs⟩:=h;exact Sat.end_ hs hD
theorem infoI : (Tryz.prog.info? tI).map (fun i=>(i.zero,i.size,i.bytes))=some (some (.int .i64 0),1,8):=by kernel_rfl
theorem lw {B w:World}{D:PH}{t:Nat}{T:TM}{l:List HP}{i:Nat}(hi:i<T.nodes.length)(hbig:T.nodes.length≤1000000)(hfb:T.free.length≤1000000)(h:TreeA B D w t T l) :
  Calls Tryz.prog 106 #[.pointer (some ⟨t,0,none⟩),.int .i64 i] w fun e w'=>e = .returned (.tuple #[])∧TreeA B D w' t (T.give i) l:=by
 obtain⟨nodes,free,k⟩:=T;obtain⟨nv,fv,ns,hns,hs⟩:=h;dsimp only at *;subst hns;rw [FZ]at hbig hi;obtain⟨p,hp⟩:∃p,ns[i]?=some p:=⟨ns[i],FP hi⟩;obtain⟨g,c,rfl,_,hcm⟩:=hs.nv_some (by omega);unfold maxLen at hcm;have hib:(i:Int)<(ns.length:Int):=by omega
 obtain⟨t0,t1,t2,t3,t4,tf⟩:=hs.tcells;obtain⟨n0,n1,n2,n3,nf⟩:=hs.node_cells hp;have Ay:=FH (hs.reset hp false);obtain⟨i0,hinf,hz0,hz1,hz2⟩:=info_parts infoI;have HI:=FH (And.intro hinf (And.intro hz0 (And.intro hz1 hz2)));have HO:=FH (show ∀u∈[Value.int .i64 (i:Int)],u.oneCell'=true by intro u hu;simp at hu;subst hu;rfl);clear hs hp hinf hz0 hz1 hz2;go_enter Tryz.func106,Tryz.ntmps106;go_upto_region 1 with (fail)
 obtain⟨W,hW,hs2⟩:=Ay.out.hide;rw [←hW];clear hW Ay t0 t1 t2 t3 t4 tf n0 n1 n2 n3 nf;obtain⟨t0,t1,t2,t3,t4,tf⟩:=hs2.tcells;have hal:=hs2.alloc #[.int .i64 (i:Int)] tI;have hrb:=bC (size:=1) (n:=1) (Sat.blk hal 4 rfl) rfl (by unfold maxLen;omega);have hal2:=Sat.front hal 2 rfl;simp only [List.eraseIdx_cons_succ,List.eraseIdx_cons_zero]at hal2;have xI:=FH hal2;have zw:=FH hrb;clear hs2 hal hrb hal2;go_wp2_with (at_builtin;refine az _ rfl _ _ 117 rfl tI i0 _ 1 8 Tryz.underlying117 HI.out.1 HI.out.2.1 HI.out.2.2.1 HI.out.2.2.2 rfl _ _ _ rfl xI.out _ 1 _ rfl zw.out HO.out (by unfold maxLen;omega) (by omega) ?_;intro v2 w2 h2 h2o;clear t0 t1 t2 t3 t4 tf;obtain⟨t0,t1,t2,t3,t4,tf⟩:=pC (h2.blk 1 rfl);have H2:=FH h2;clear h2);go_end0;have h3:=H2.out.swap.set 1 v2;refine⟨rfl,.slice (some ⟨g,0,none⟩) ns.length c,v2,ns.set i (ez false),by rw [List.map_set];rfl,?_⟩
 show Sat B D _ (blk t (aM _ v2 k) tT::aD tN 4 _ (ns.set i (ez false)).length _::be v2 (free ++ [i])::aY _::l);unfold be;rw [FR,FT,List.flatMap_singleton];have h4:=h3.perm (((List.Perm.swap _ _ _).cons _).trans (((Ge (l₁:=[aD tN 4 (.slice (some ⟨g,0,none⟩) ns.length c) (ns.set i (ez false)).length ((ns.set i (ez false)).flatMap aG),aD tI 1 v2 (free.length+1) (free.flatMap ncells ++ [Value.int .i64 (i:Int)]),aY ((ns.set i (ez false)).map bV)]) (l₂:=l)).cons _)));exact(h4.perm (List.Perm.swap _ _ _)).drop
def aR {α:Type}(l:List α)(i:Nat):List α:=l.take i++l.drop (i+1)
theorem da {α:Type}(l:List α)(i:Nat)(h:i<l.length):(aR l i).length+1=l.length:=by unfold aR;simp;omega
theorem fG {α:Type}{f:α→List Value}{size:Nat}(hf:∀x,(f x).length=size)(l:List α)(i:Nat):(l.flatMap f).take (i*size)++(l.flatMap f).drop ((i+1)*size)=(aR l i).flatMap f:=by
 rw [fw hf,gr hf];simp [aR]
theorem nj {B w:World}{D:PH}{t:Nat}{T:TM}{l:List HP}{i:Nat}{m:NodeM}{k:Val}(hi:T.nodes[i]?=some m)(hl:m.leaf=true)(hkb:m.keys.length≤1000)(his:dW m.keys k=false)(h:TreeA B D w t T l) :
  Calls Tryz.prog 105 #[.pointer (some ⟨t,0,none⟩),.int .i64 i,k.v] w fun e w'=>e = .returned (.bool false)∧TreeA B D w' t T l:=by
 obtain⟨nv,fv,ns,hns,hs⟩:=h;obtain⟨⟨kv,vv,dv⟩,hp⟩:=aK hns hi;have hlt:=(FO.1 hp).1;obtain⟨g,c,rfl,_,hcm⟩:=hs.nv_some (by omega);unfold maxLen at hcm;have hs1:=hs.alloc #[.bool k.t,.int .i64 k.n,.string k.s] tV;have hib:(i:Int)<(ns.length:Int):=by omega
 have wG:=FH hs1;have HP:=FH hp;have xr:=FH hns;have HL:=FH hl;have zE:=FH his;have hkb2:m.keys.length≤1000000:=by omega
 clear hs hs1 hp hi hns hl his;dsimp only [Val.v];go_enter Tryz.func105,Tryz.ntmps105;go_upto_region 1 with (fail)
 obtain⟨W,hW,hs2⟩:=wG.out.hide;rw [←hW];clear wG hW;generalize w.heap.size=bk at hs2 ⊢;obtain⟨t0,t1,t2,t3,t4,tf⟩:=hs2.tcells;obtain⟨n0,n1,n2,n3,nf⟩:=hs2.node_cells HP.out;obtain⟨x0,x1,x2,xf⟩:=aQ (Sat.blk hs2 4 rfl);have hrd:=hs2.drew.keys_rd HP.out;obtain⟨ko,kc,hkv⟩:=(hs2.focus HP.out).own_shape;dsimp only at hkv n0 n1 n2 n3 hrd;subst hkv;rw [HL.out]at n0;have wQ:=FH hrd;have wJ:=FH hs2;clear hrd hs2;go_upto_region 3 with (fail)
 refine aH [rq 0 5,rq 1 5,rq 2 5,rq 3 5,rq 4 5,(5,true,0),rq 6 999,rq 7 999,rq 8 999,rq 9 999,rq 10 999] ?_;iterate 5 (refine ae rfl rfl fun K hK=>?_;go_simp;apply hK;clear hK K)
 refine af rfl ?_;refine al rfl fun K hK=>?_;go_simp;refine(fA k wQ.out hkb2).mono ?_;rintro e1 w1 ⟨rfl,hk1⟩;have wI:=FH ((wJ.out.drew).kept hk1);clear hk1 wJ x0 x1 x2 xf t0 t1 t2 t3 t4 tf n0 n1 n2 n3 nf wQ;rw [zE.out];refine hK _ _ ?_;clear hK K;refine wpList_nil ?_;apply And.intro
 ·go_simp
 iterate 5 (refine ae rfl rfl fun K hK=>?_;go_simp;apply hK;clear hK K)
 refine ag ?_;go_wp2_with (fail);go_ret;exact⟨rfl,_,_,_,xr.out,wI.out.drop⟩
theorem oS {B w:World}{D:PH}{t:Nat}{T:TM}{l:List HP}{i:Nat}{m:NodeM}{k:Val}(hi:T.nodes[i]?=some m)(hl:m.leaf=true)(hkb:m.keys.length≤1000)(hv:m.vals.length=m.keys.length)(his:dW m.keys k=true)(h:TreeA B D w t T l) :
  Calls Tryz.prog 105 #[.pointer (some ⟨t,0,none⟩),.int .i64 i,k.v] w fun e w'=>e = .returned (.bool true)∧TreeA B D w' t { T with nodes:=T.nodes.set i { m with keys:=aR m.keys (bg m.keys k),vals:=aR m.vals (bg m.keys k) } } l:=by
 obtain⟨nv,fv,ns,hns,hs⟩:=h;obtain⟨⟨kv,vv,dv⟩,hp⟩:=aK hns hi;have hlt:=(FO.1 hp).1;obtain⟨g,c,rfl,_,hcm⟩:=hs.nv_some (by omega);unfold maxLen at hcm;have hs1:=hs.alloc #[.bool k.t,.int .i64 k.n,.string k.s] tV;have hib:(i:Int)<(ns.length:Int):=by omega
 have wG:=FH hs1;have HP:=FH hp;have xr:=FH hns;have HL:=FH hl;have zE:=FH his;have hbl:=lC his;have hkb2:m.keys.length≤1000000:=by omega
 obtain⟨nk,hnk⟩:∃nk,m.keys.length=nk+1:=⟨m.keys.length-1,by omega⟩;obtain⟨at_,hat⟩:∃at_,bg m.keys k=at_:=⟨_,rfl⟩;have Dr:=FH hnk;have Bw:=FH hat;have DL:=FH (hv.trans hnk);have hal:at_≤nk:=by omega
 have hnkb:nk≤1000:=by omega
 clear hs hs1 hp hi hns hl his hv hbl;dsimp only [Val.v];go_enter Tryz.func105,Tryz.ntmps105;go_upto_region 1 with (fail)
 obtain⟨W,hW,hs2⟩:=wG.out.hide;rw [←hW];clear wG hW;generalize w.heap.size=bk at hs2 ⊢;obtain⟨t0,t1,t2,t3,t4,tf⟩:=hs2.tcells;obtain⟨n0,n1,n2,n3,nf⟩:=hs2.node_cells HP.out;obtain⟨x0,x1,x2,xf⟩:=aQ (Sat.blk hs2 4 rfl);have hrd:=hs2.drew.keys_rd HP.out;obtain⟨ko,kc,hkv⟩:=(hs2.focus HP.out).own_shape;dsimp only at hkv n0 n1 n2 n3 hrd;subst hkv;rw [HL.out]at n0;have wQ:=FH hrd;have wJ:=FH hs2;clear hrd hs2;clear hnk hat;go_upto_region 3 with (fail)
 refine aH [rq 0 5,rq 1 5,rq 2 5,rq 3 5,rq 4 5,(5,true,0),rq 6 999,rq 7 999,rq 8 999,rq 9 999,rq 10 999] ?_;iterate 5 (refine ae rfl rfl fun K hK=>?_;go_simp;apply hK;clear hK K)
 refine af rfl ?_;refine al rfl fun K hK=>?_;go_simp;refine(fA k wQ.out hkb2).mono ?_;rintro e1 w1 ⟨rfl,hk1⟩;have hs3:=(wJ.out.drew).kept hk1;clear hk1 wJ x0 x1 x2 xf t0 t1 t2 t3 t4 tf n0 n1 n2 n3 nf wQ;rw [zE.out,Bw.out];obtain⟨n0,n1,n2,n3,nf⟩:=hs3.node_cells HP.out;dsimp only at n0 n1 n2 n3;have hs3':=hs3.focus HP.out;unfold dm at hs3';dsimp only at hs3';rw [Dr.out]at hs3' n1;have wI:=FH hs3';clear hs3 hs3';rw [Dr.out];refine hK _ _ ?_;clear hK K;refine wpList_nil ?_;apply And.intro
 ·go_simp
 iterate 5 (refine ae rfl rfl fun K hK=>?_;go_simp;apply hK;clear hK K)
 refine ag ?_;have hw1:IntKind.i64.wrap ((at_:Int)+1)=(at_:Int)+1:=cq _ (by omega) (by omega);have hdl:(aR m.keys at_).length=nk:=by have:=da m.keys at_ (by rw [Dr.out];omega);rw [Dr.out]at this;omega
 have hdv:(aR m.vals at_).length=nk:=by have:=da m.vals at_ (by rw [DL.out];omega);rw [DL.out]at this;omega
 have Bt:=FH hdl;have EY:=FH hdv;clear hdl hdv;go_upto_region 6 with ((go_at_call 119;refine(mZ (i:=at_) (n:=nk) (fG Val.len m.keys at_).symm hal wI.out).mono ?_;rintro e5 w5 ⟨kv5,rfl,hs5⟩;obtain⟨ko5,kc5,rfl⟩:=hs5.own_shape;clear n0 n1 n2 n3 nf;obtain⟨n0,n1,n2,n3,nf⟩:=cA (hs5.own 4 rfl) HP.out;dsimp only at n0 n1 n2 n3;have wT:=FH hs5;clear hs5))
 obtain⟨kk,hkk⟩:∃kk,aR m.keys at_=kk:=⟨_,rfl⟩;have yG:=FH hkk;rw [hkk]at wT Bt;clear hkk;have hq6:TreeS B D (w5.setCell ⟨g,i*4+1,none⟩ (.slice ko5 nk kc5)) t (.slice (some ⟨g,0,none⟩) ns.length c) fv (ns.set i (⟨.slice ko5 nk kc5,vv,dv⟩,{ m with keys:=kk })) T.free T.k _:=TreeS.set_keys HP.out (by unfold dm;rw [Bt.out];exact wT.out);obtain⟨W6,hW6,hs6⟩:=hq6.hide;rw [←hW6];clear hq6;have hp6:=bW (x:=((⟨.slice ko5 nk kc5,vv,dv⟩,{ m with keys:=kk }):NP)) HP.out;have hmap6:(ns.set i ((⟨.slice ko5 nk kc5,vv,dv⟩,{ m with keys:=kk }):NP)).map Prod.snd=T.nodes.set i { m with keys:=kk }:=by rw [List.map_set,xr.out]
 try dsimp only at hs6
 generalize ns.set i ((⟨.slice ko5 nk kc5,vv,dv⟩,{ m with keys:=kk }):NP)=ns6 at hs6 hp6 hmap6;clear hW6 wT HP xr n0 n1 n2 n3 nf;obtain⟨n0,n1,n2,n3,nf⟩:=hs6.node_cells hp6;dsimp only at n0 n1 n2 n3;obtain⟨vo,vc,hvv⟩:=(hs6.focus hp6).drop.own_shape;dsimp only at hvv;subst hvv;have hs7:=(hs6.focus hp6).swap;unfold dl at hs7
 try dsimp only at hs7
 rw [DL.out]at hs7 n2;have wP:=FH hs7;have CL:=FH hp6;have yt:=FH hmap6;clear hs6 hs7 hp6 hmap6;go_wp2_with ((go_at_call 120;refine(mF (i:=at_) (n:=nk) (fG kV m.vals at_).symm hal wP.out).mono ?_;rintro e8 w8 ⟨vv8,rfl,hs8⟩;obtain⟨vo8,vc8,rfl⟩:=hs8.own_shape;clear n0 n1 n2 n3 nf;obtain⟨n0,n1,n2,n3,nf⟩:=cA (hs8.own 4 rfl) CL.out;dsimp only at n0 n1 n2 n3;have xQ:=FH hs8;clear hs8));go_ret;obtain⟨vs,hvs⟩:∃vs,aR m.vals at_=vs:=⟨_,rfl⟩;have h9:=xQ.out;have h10:=EY.out;rw [hvs]at h9 h10;have hs10:=TreeS.set_vals CL.out (vs:=vs) (vv:=.slice vo8 nk vc8) (by unfold dl;rw [h10];exact h9);refine⟨rfl,_,_,_,?_,hs10.drop⟩;rw [List.map_set,yt.out,List.set_set,Bw.out,hvs,←yG.out]
def RepM (nodes:List NodeM):Nat→NodeM→PL→List Nat→Prop
 | 0,m,L,ids=>m.leaf=true∧m.kids = []∧m.vals.length=m.keys.length∧L=m.keys.zip m.vals∧ids = []
 | d+1,m,L,ids=>m.leaf=false∧m.vals = []∧∃cs:List Kid,m.kids=cs.map Kid.id∧cs.length=m.keys.length+1∧(∀c∈cs,Rep nodes d c.id c.L c.ids∧Fit nodes c.id)∧Seps m.keys cs∧cJ m.keys∧L=cs.flatMap Kid.L∧ids=cs.flatMap Kid.ids
theorem kd {nodes:List NodeM}{d i:Nat}{L:PL}{ids:List Nat}(h:Rep nodes d i L ids):∃m ids',nodes[i]?=some m∧RepM nodes d m L ids'∧ids=i::ids':=by
 cases d with
 | zero=>obtain⟨m,h1,h2,h3,h4,h5,h6⟩:=h;exact⟨m,[],h1,⟨h2,h3,h4,h5,rfl⟩,h6⟩
 | succ d=>obtain⟨m,h1,h2,h3,cs,h4,h5,h6,h7,h8,h9,h10⟩:=h;exact⟨m,_,h1,⟨h2,h3,cs,h4,h5,h6,h7,h8,h9,rfl⟩,h10⟩
theorem RepM.toRep {nodes:List NodeM}{d i:Nat}{m:NodeM}{L:PL}{ids:List Nat}(h:RepM nodes d m L ids)(hi:nodes[i]?=some m):Rep nodes d i L (i::ids):=by
 cases d with
 | zero=>obtain⟨h2,h3,h4,h5,rfl⟩:=h;exact⟨m,hi,h2,h3,h4,h5,rfl⟩
 | succ d=>obtain⟨h2,h3,cs,h4,h5,h6,h7,h8,h9,rfl⟩:=h;exact⟨m,hi,h2,h3,cs,h4,h5,h6,h7,h8,h9,rfl⟩
theorem RepM.frame {nodes nodes':List NodeM}{d:Nat}{m:NodeM}{L:PL}{ids:List Nat}(h:RepM nodes d m L ids)(hf:∀x∈ids,nodes'[x]?=nodes[x]?):RepM nodes' d m L ids:=by
 cases d with
 | zero=>exact h
 | succ d =>
  obtain⟨h2,h3,cs,h4,h5,h6,h7,h8,h9,rfl⟩:=h;refine⟨h2,h3,cs,h4,h5,fun c hc=>?_,h7,h8,h9,rfl⟩;have hsub:∀x∈c.ids,nodes'[x]?=nodes[x]?:=fun x hx=>hf x (Gi.2 ⟨c,hc,hx⟩);obtain⟨h10,h11⟩:=h6 c hc;exact⟨h10.frame hsub,h11.frame (hsub _ h10.self)⟩
theorem RepM.leaf {nodes:List NodeM}{d:Nat}{m:NodeM}{L:PL}{ids:List Nat}(h:RepM nodes d m L ids):m.leaf=(d == 0):=by
 cases d with
 | zero=>exact h.1
 | succ d=>exact h.1
theorem ke {α:Type}(l:List α)(c j:Nat):(aR l c)[j]?=if j<c then l[j]? else l[j+1]?:=by
 unfold aR;by_cases h:j<c
 ·rw [if_pos h]
  by_cases hl:j<l.length
  ·rw [Gm (by rw [F0];omega),List.getElem?_take,if_pos h]
  ·rw [List.getElem?_eq_none (by simp;omega),List.getElem?_eq_none (by omega)]
 ·rw [if_neg h]
  by_cases hl:c≤l.length
  ·have e:(l.take c).length=c:=by rw [F0];omega
   rw [Gb (by omega),e,List.getElem?_drop,show c+1+(j-c)=j+1 by omega]
  ·rw [List.getElem?_eq_none (by simp;omega),List.getElem?_eq_none (by omega)]
theorem ins_del {α:Type}(l:List α)(c:Nat)(x:α)(h:c<l.length):aT (aR l c) c x=l.set c x:=by
 refine List.ext_getElem? (fun j=>?_);have hd:=da l c h;rw [oe _ _ _ (by omega)];by_cases h1:j<c
 ·rw [if_pos h1,ke,if_pos h1,F8 (by omega)]
 ·rw [if_neg h1]
  by_cases h2:j=c
  ·subst h2;rw [if_pos rfl,FX h]
  ·rw [if_neg h2,ke,if_neg (by omega),show j-1+1=j by omega,F8 (by omega)]
theorem Seps.join {keys:List Val}{A Bs:List Kid}{cx cy cm:Kid}(h:Seps keys (A++cx::cy::Bs))(hL:cm.L=cx.L++cy.L):Seps (aR keys A.length) (A++cm::Bs):=by
 intro j k hk;rw [ke]at hk;have e3:A++cx::cy::Bs=(A ++ [cx])++cy::Bs:=by simp
 split at hk
 ·rename_i hj
  obtain⟨g1,g2⟩:=h j k hk;rw [dI,if_pos (by omega)]at g1 ⊢;rw [dF,if_pos (by omega)]at g2 ⊢;refine⟨g1,fun x hx=>g2 x ?_⟩;simp only [FT,F1,hL,F2]at hx ⊢;rcases hx with hx|(hx|hx)|hx
  ·exact .inl hx
  ·exact .inr (.inl hx)
  ·exact .inr (.inr (.inl hx))
  ·exact .inr (.inr (.inr hx))
 ·rename_i hj
  obtain⟨g1,g2⟩:=h (j+1) k hk;rw [e3,dI,if_neg (by simp;omega)]at g1;rw [e3,dF,if_neg (by simp;omega)]at g2;rw [dI,if_neg (by omega),dF,if_neg (by omega)];simp only [FR,Gh]at g1 g2;rw [show j+1-A.length-1=j+1+1-(A.length+1)-1 by omega];refine⟨fun x hx=>g1 x ?_,g2⟩;simp only [FT,F1,List.flatMap_nil,List.append_nil,hL,F2]at hx ⊢;rcases hx with hx|(hx|hx)|hx
  ·exact .inl (.inl hx)
  ·exact .inl (.inr hx)
  ·exact .inr (.inl hx)
  ·exact .inr (.inr hx)
theorem nM {α:Type}(l:List α)(c:Nat):(aR l c).Sublist l:=by
 unfold aR;have:=List.Sublist.append (List.Sublist.refl (l.take c)) (List.drop_sublist_drop_left l (show c≤c+1 by omega));rw [Gj]at this;exact this
theorem Seps.move {keys:List Val}{A Bs:List Kid}{cx cy kx ky:Kid}{sep:Val}(hlen:(A++cx::cy::Bs).length=keys.length+1)(h:Seps keys (A++cx::cy::Bs))(hs:cJ keys)
  (hL:cx.L++cy.L=kx.L++ky.L) (h1:∀x∈kx.L,ai x.1 sep<0) (h2:∀x∈ky.L,ai sep x.1≤0) (hn1:kx.L≠[]) (hn2:ky.L≠[]) :
  Seps (keys.set A.length sep) (A++kx::ky::Bs)∧cJ (keys.set A.length sep):=by
 simp only [FR,List.length_cons]at hlen;have hd:=da keys A.length (by omega);have hj:=h.join (cm:=⟨0,cx.L++cy.L,[]⟩) rfl;have:=Seps.split (k1:=kx) (k2:=ky) (sep:=sep) (by simp;omega) hj (hs.sublist (nM _ _)) hL h1 h2 hn1 hn2;rw [ins_del _ _ _ (by omega)]at this;exact this
theorem Seps.concat {kx ky:List Val}{cx cy:List Kid}{sk:Val}(hx:Seps kx cx)(hy:Seps ky cy)(hlx:cx.length=kx.length+1)(hly:cy.length=ky.length+1)(hsx:cJ kx)(hsy:cJ ky)
  (h1:∀x∈cx.flatMap Kid.L,ai x.1 sk<0) (h2:∀x∈cy.flatMap Kid.L,ai sk x.1≤0) (hnx:∀c∈cx,c.L≠[]) (hny:∀c∈cy,c.L≠[]) :
  Seps (kx++sk::ky) (cx++cy)∧cJ (kx++sk::ky):=by
 have lx:∀j k,kx[j]?=some k→ai k sk<0:=fun j k hk=>by
  have hlt:=(FO.1 hk).1;have hc:cx[j+1]?=some cx[j+1]:=FP (by omega);obtain⟨y,hy'⟩:=List.exists_mem_of_ne_nil _ (hnx _ (FQ hc));have h3:=(hx j k hk).2 y (Gi.2 ⟨_,by rw [List.drop_eq_getElem_cons (by omega)];exact Gc ..,hy'⟩);exact jN h3 (h1 y (Gi.2 ⟨_,FQ hc,hy'⟩))
 have ly:∀j k,ky[j]?=some k→ai sk k<0:=fun j k hk=>by
  have hlt:=(FO.1 hk).1;have hc:cy[j]?=some cy[j]:=FP (by omega);obtain⟨y,hy'⟩:=List.exists_mem_of_ne_nil _ (hny _ (FQ hc));have hm:cy[j]∈cy.take (j+1):=FQ (i:=j) (by rw [List.getElem?_take,if_pos (by omega)];exact hc);have h3:=(hy j k hk).1 y (Gi.2 ⟨_,hm,hy'⟩);exact jN (h2 y (Gi.2 ⟨_,FQ hc,hy'⟩)) h3
 refine⟨fun j k hk=>?_,?_⟩
 ·by_cases hj:j<kx.length
  ·rw [Gm hj]at hk
   obtain⟨g1,g2⟩:=hx j k hk;rw [F9 (by omega),List.drop_append_of_le_length (by omega)];refine⟨g1,fun x hx'=>?_⟩;rw [FT]at hx';rcases F2.1 hx' with h|h
   ·exact g2 x h
   ·have:=jI (lx j k hk) (h2 x h);omega
  ·rw [Gb (by omega)]at hk
   by_cases hj2:j=kx.length
   ·subst hj2
    rw [Nat.sub_self]at hk;cases hk;rw [show kx.length+1=cx.length by omega,List.take_left,List.drop_left];exact⟨h1,h2⟩
   ·obtain⟨q,hq⟩:∃q,j=kx.length+(q+1):=⟨j-kx.length-1,by omega⟩
    subst hq;rw [show kx.length+(q+1)-kx.length=q+1 by omega,List.getElem?_cons_succ]at hk;obtain⟨g1,g2⟩:=hy q k hk;rw [show kx.length+(q+1)+1=cx.length+(q+1) by omega,List.take_length_add_append,List.drop_length_add_append];refine⟨fun x hx'=>?_,g2⟩;rw [FT]at hx';rcases F2.1 hx' with h|h
    ·exact fC (h1 x h) (ly q k hk)
    ·exact g1 x h
 ·unfold cJ
  rw [List.pairwise_append,List.pairwise_cons];refine⟨hsx,⟨fun a ha=>?_,hsy⟩,fun a ha b hb=>?_⟩
  ·obtain⟨j,hj⟩:=List.mem_iff_getElem?.1 ha
   exact ly j a hj
  ·obtain⟨j,hj⟩:=List.mem_iff_getElem?.1 ha
   rcases Gl.1 hb with rfl|hb
   ·exact lx j a hj
   ·obtain⟨j',hj'⟩:=List.mem_iff_getElem?.1 hb
    exact fC (lx j a hj) (ly j' b hj')
theorem RepM.kids_ne {nodes:List NodeM}{d:Nat}{cs:List Kid}(h:∀c∈cs,Rep nodes d c.id c.L c.ids∧Fit nodes c.id):∀c∈cs,c.L≠[]:=fun c hc=>by
 obtain⟨hr,m,hm,hf,_⟩:=h c hc;exact hr.some ⟨m,hm,by omega⟩
theorem RepM.concat {nodes:List NodeM}{d:Nat}{mx my:NodeM}{lx ly:PL}{ix iy:List Nat}{sk:Val}(hx:RepM nodes (d+1) mx lx ix)(hy:RepM nodes (d+1) my ly iy)(h1:∀x∈lx,ai x.1 sk<0)(h2:∀x∈ly,ai sk x.1≤0)(m:NodeM)
  (hm1:m.leaf=false) (hm2:m.vals = []) (hm3:m.keys=mx.keys++sk::my.keys) (hm4:m.kids=mx.kids++my.kids):RepM nodes (d+1) m (lx++ly) (ix++iy):=by
 obtain⟨a1,a2,cx,a3,a4,a5,a6,a7,rfl,rfl⟩:=hx;obtain⟨b1,b2,cy,b3,b4,b5,b6,b7,rfl,rfl⟩:=hy;obtain⟨s1,s2⟩:=Seps.concat a6 b6 a4 b4 a7 b7 h1 h2 (RepM.kids_ne a5) (RepM.kids_ne b5);rw [←hm3]at s1 s2;refine⟨hm1,hm2,cx++cy,by rw [hm4,a3,b3,List.map_append],by rw [hm3];simp;omega,fun c hc=>(F2.1 hc).elim (a5 c) (b5 c),s1,s2,by simp,by simp⟩
theorem RepM.cut {nodes:List NodeM}{d h:Nat}{m m1 m2:NodeM}{L:PL}{ids:List Nat}{s:Val}(hm:RepM nodes (d+1) m L ids)(hs:m.keys[h]?=some s)
  (p1:m1.leaf=false) (p2:m1.vals = []) (p3:m1.keys=m.keys.take h) (p4:m1.kids=m.kids.take (h+1)) (q1:m2.leaf=false) (q2:m2.vals = []) (q3:m2.keys=m.keys.drop (h+1)) (q4:m2.kids=m.kids.drop (h+1)) :
  ∃l1 l2 i1 i2,RepM nodes (d+1) m1 l1 i1∧RepM nodes (d+1) m2 l2 i2∧L=l1++l2∧ids=i1++i2∧(∀x∈l1,ai x.1 s<0)∧(∀x∈l2,ai s x.1≤0)∧l1≠[]∧l2≠[]:=by
 obtain⟨a1,a2,cs,a3,a4,a5,a6,a7,rfl,rfl⟩:=hm;have hlt:=(FO.1 hs).1;obtain⟨g1,g2⟩:=a6 h s hs;have hne:=RepM.kids_ne a5;have some_of:∀l:List Kid,l≠[]→(∀c∈l,c∈cs)→l.flatMap Kid.L≠[]:=fun l hl hsub e=>by
  obtain⟨c,hc⟩:=List.exists_mem_of_ne_nil _ hl;obtain⟨y,hy⟩:=List.exists_mem_of_ne_nil _ (hne c (hsub c hc));have:y∈l.flatMap Kid.L:=Gi.2 ⟨c,hc,hy⟩;rw [e]at this;cases this
 refine⟨(cs.take (h+1)).flatMap Kid.L,(cs.drop (h+1)).flatMap Kid.L,(cs.take (h+1)).flatMap Kid.ids,(cs.drop (h+1)).flatMap Kid.ids,⟨p1,p2,cs.take (h+1),by rw [p4,a3,List.map_take],by rw [p3];simp;omega,fun c hc=>a5 c (Gf hc),by rw [p3];exact a6.take h,by rw [p3];exact a7.sublist (List.take_sublist _ _),rfl,rfl⟩,
  ⟨q1,q2,cs.drop (h+1),by rw [q4,a3,List.map_drop],by rw [q3];simp;omega,fun c hc=>a5 c (Gd hc),by rw [q3];exact a6.drop (h+1),by rw [q3];exact a7.sublist (List.drop_sublist _ _),rfl,rfl⟩,
  by rw [←FT,Gj],by rw [←FT,Gj],g1,g2,?_,?_⟩
 ·exact some_of _ (fun e=>by have:=congrArg List.length e;rw [F0,List.length_nil]at this;omega) (fun c hc=>Gf hc)
 ·exact some_of _ (fun e=>by have:=congrArg List.length e;rw [Ga,List.length_nil]at this;omega) (fun c hc=>Gd hc)
theorem RepM.concat0 {nodes:List NodeM}{mx my:NodeM}{lx ly:PL}{ix iy:List Nat}(hx:RepM nodes 0 mx lx ix)(hy:RepM nodes 0 my ly iy)(m:NodeM)
  (hm1:m.leaf=true) (hm2:m.kids = []) (hm3:m.keys=mx.keys++my.keys) (hm4:m.vals=mx.vals++my.vals):RepM nodes 0 m (lx++ly) (ix++iy):=by
 obtain⟨a1,a2,a3,rfl,rfl⟩:=hx;obtain⟨b1,b2,b3,rfl,rfl⟩:=hy;exact⟨hm1,hm2,by rw [hm3,hm4,FR,FR,a3,b3],by rw [hm3,hm4,List.zip_append (by omega)],rfl⟩
theorem RepM.cut0 {nodes:List NodeM}{h:Nat}{m m1 m2:NodeM}{L:PL}{ids:List Nat}{s:Val}(hm:RepM nodes 0 m L ids)(hsL:bh L)(hs:m.keys[h]?=some s)(h0:0<h)
  (p1:m1.leaf=true) (p2:m1.kids = []) (p3:m1.keys=m.keys.take h) (p4:m1.vals=m.vals.take h) (q1:m2.leaf=true) (q2:m2.kids = []) (q3:m2.keys=m.keys.drop h) (q4:m2.vals=m.vals.drop h) :
  ∃l1 l2 i1 i2,RepM nodes 0 m1 l1 i1∧RepM nodes 0 m2 l2 i2∧L=l1++l2∧ids=i1++i2∧(∀x∈l1,ai x.1 s<0)∧(∀x∈l2,ai s x.1≤0)∧l1≠[]∧l2≠[]:=by
 obtain⟨a1,a2,a3,rfl,rfl⟩:=hm;have hlt:=(FO.1 hs).1;have hsk:cJ m.keys:=eO a3 hsL;have hzl:(m.keys.zip m.vals).length=m.keys.length:=by rw [List.length_zip,a3];omega
 refine⟨(m.keys.zip m.vals).take h,(m.keys.zip m.vals).drop h,[],[],⟨p1,p2,by rw [p3,p4];simp [a3],by rw [p3,p4,iK],rfl⟩,⟨q1,q2,by rw [q3,q4];simp [a3],by rw [q3,q4,iE],rfl⟩,(Gj _ _).symm,rfl,?_,?_,?_,?_⟩
 ·refine eF (fun j p hj hl=>?_)
  have hg:=eQ hj;have hjl:=(FO.1 hg).1;have:=List.pairwise_iff_getElem.1 hsk j h hjl hlt hl;rw [FP hlt]at hs;rw [FP hjl]at hg;rw [Option.some.inj hs,Option.some.inj hg]at this;exact this
 ·refine eE (fun j p hj hge=>?_)
  have hg:=eQ hj;have hjl:=(FO.1 hg).1;rw [FP hlt]at hs;by_cases he:j=h
  ·subst he
   rw [FP hlt,hs]at hg;rw [Option.some.inj hg,dd];exact Int.le_refl _
  ·have:=List.pairwise_iff_getElem.1 hsk h j hlt hjl (by omega)
   rw [FP hjl]at hg;rw [Option.some.inj hs,Option.some.inj hg]at this;omega
 ·intro e;have:=congrArg List.length e;rw [F0,hzl,List.length_nil]at this;omega
 ·intro e;have:=congrArg List.length e;rw [Ga,hzl,List.length_nil]at this;omega
inductive TM.Leads (T:TM)(k:Val):Nat→Nat→Nat→Prop
 | leaf {i:Nat} {m:NodeM} (hi:T.nodes[i]?=some m) (hl:m.leaf=true):TM.Leads T k 0 i i
 | inner {n i kid j:Nat} {m:NodeM} (hi:T.nodes[i]?=some m) (hl:m.leaf=false) (hkb:m.keys.length≤1000) (hc:m.kids[bu m.keys k]?=some kid) (h:TM.Leads T k n kid j):TM.Leads T k (n+1) i j
theorem TM.Leads.uniq {T:TM}{k:Val}{n i j:Nat}(h:T.Leads k n i j):∀ {n' j':Nat},T.Leads k n' i j'→n=n'∧j=j':=by
 induction h with
 | leaf hi hl =>
  intro n' j' h';cases h' with
  | leaf=>exact⟨rfl,rfl⟩
  | inner hi' hl'=>rw [hi]at hi';cases hi';rw [hl]at hl';cases hl'
 | inner hi hl hkb hc h ih =>
  intro n' j' h';cases h' with
  | leaf hi' hl'=>rw [hi]at hi';cases hi';rw [hl]at hl';cases hl'
  | inner hi' hl' hkb' hc' h' =>
   rw [hi]at hi';cases hi';rw [hc]at hc';cases hc';obtain⟨e1,e2⟩:=ih h';exact⟨by rw [e1],e2⟩
open Classical in
noncomputable def TM.lh (T:TM)(k:Val)(i:Nat):Nat:=if h:∃n j,T.Leads k n i j then h.choose else 0
theorem TM.lh_eq {T:TM}{k:Val}{n i j:Nat}(h:T.Leads k n i j):T.lh k i=n:=by
 unfold TM.lh;have hex:∃n j,T.Leads k n i j:=⟨n,j,h⟩;rw [dif_pos hex];obtain⟨j',hj'⟩:=hex.choose_spec;exact(hj'.uniq h).1
theorem leaf_ok {B w:World}{D:PH}{t g c n r j:Nat}{fv:Value}{ns:List NP}{T:TM}{l:List HP}{k:Val}(hns:ns.map Prod.snd=T.nodes)(hroot:T.k.root=(r:Int))(hld:T.Leads k n r j)
  (hs:TreeS B D w t (.slice (some ⟨g,0,none⟩) ns.length c) fv ns T.free T.k l) :
  Calls Tryz.prog 111 #[.pointer (some ⟨t,0,none⟩),k.v] w fun e w'=>e = .returned (.pointer (some ⟨g,j*4,none⟩))∧Kept (fun _=>False) w w':=by
 have hk1:Kept (fun _=>False) w (w.alloc (.cells #[.bool k.t,.int .i64 k.n,.string k.s] tV)):=(Kept.refl _ _).alloc _;have hb1:(w.alloc (.cells #[.bool k.t,.int .i64 k.n,.string k.s] tV)).heap[w.heap.size]?=some (.cells #[.bool k.t,.int .i64 k.n,.string k.s] tV (0,0)):=ak w _;obtain⟨_,_,hv,hcm⟩:=hs.nv_any;cases hv;obtain⟨_,_,_,_,hcc⟩:∃_:Unit,∃_:Unit,∃_:Unit,∃_:Unit,ns.length≤c:=by
  obtain⟨_,_,hv,h1,_⟩:=(Sat.own hs 1 rfl).rd.2.2;cases hv;exact⟨(),(),(),(),h1⟩
 unfold maxLen at hcm;have HS:=FH hs;have wN:=FH hk1;have wL:=FH hb1;have xr:=FH hns;have yH:=FH hld;have xH:=FH hroot;obtain⟨t0,t1,t2,t3,t4,tf⟩:=(hs.kept hk1).tcells;rw [hroot]at t2;have hr0:¬((r:Int)<0):=by omega
 clear hs hk1 hb1 hns hld hroot;dsimp only [Val.v];go_enter Tryz.func111,Tryz.ntmps111;go_upto_region 1 with (fail)
 obtain⟨W,hW⟩:∃W,W=w.alloc (.cells #[.bool k.t,.int .i64 k.n,.string k.s] tV):=⟨_,rfl⟩;rw [←hW]at wN wL t0 t1 t2 t3 t4 tf ⊢;generalize w.heap.size=bk at wL ⊢;clear hW;go_wp2_with (fail);clear t0 t1 t2 t3 t4 tf
 go_loopw [5] (fun idx wr=>∃i n',idx = .int .i64 (i:Nat)∧T.Leads k n' i j∧Kept (fun _=>False) W wr) (fun idx _=>T.lh k (intOf idx).toNat)
 case atStart=>exact⟨r,n,rfl,yH.out,Kept.refl _ _⟩
 case round =>
  obtain⟨i,n',rfl,hld,hk⟩:=hrel;have hs2:=(HS.out.kept wN.out).kept hk;obtain⟨t0,t1,t2,t3,t4,tf⟩:=hs2.tcells;rw [xH.out]at t2;cases hld with
  | leaf hi hl =>
   obtain⟨⟨kv,vv,dv⟩,hp⟩:=aK xr.out hi;have hlt:=(FO.1 hp).1;have hib:(j:Int)<(ns.length:Int):=by omega
   obtain⟨n0,n1,n2,n3,nf⟩:=hs2.node_cells hp;dsimp only at n0 n1 n2 n3;rw [hl]at n0;have Bx:=FH (wN.out.trans hk (fun _ h=>h.elim));clear hi hl hp hs2 hk;go_wp2_with (fail);go_ret;exact⟨rfl,Bx.out⟩
  | inner hi hl hkb hc h =>
   rename_i nn kid m;obtain⟨⟨kv,vv,dv⟩,hp⟩:=aK xr.out hi;have hlt:=(FO.1 hp).1;have hib:(i:Int)<(ns.length:Int):=by omega
   obtain⟨n0,n1,n2,n3,nf⟩:=hs2.node_cells hp;dsimp only at n0 n1 n2 n3;rw [hl]at n0;obtain⟨x0,x1,x2,xf⟩:=aQ ((hk.block _ (aw wL.out) (fun h=>h)).trans wL.out);obtain⟨C,hC⟩:∃C,bu m.keys k=C:=⟨_,rfl⟩;rw [hC]at hc;have hcl:=(FO.1 hc).1;obtain⟨dg,dc,hdv,hdc1,hdc2⟩:=aF (Sat.own (hs2.focus hp) 2 rfl) (by show 0<m.kids.length;omega);dsimp only at hdv;subst hdv;have By:=FH (j4 (B:=B) (D:=D) k hi (by omega) ⟨_,_,_,xr.out,hs2.drew⟩);rw [hC]at By;have hcb:(C:Int)<(m.kids.length:Int):=by omega
   have HH:=FH h;have Ds:=FH hs2;have Dt:=FH hp;have yj:=FH hc;have yG:=FH hk;have DM:=FH (show T.lh k i=nn+1 from TM.lh_eq (.inner hi hl hkb (by rw [hC];exact hc) h));clear hi hl hp hs2 hk h hkb hC hc;go_upto_region 5 with (fail)
   refine aH [rq 0 999,rq 1 999,rq 2 999,rq 3 999,rq 4 999,rq 5 999,rq 6 999,rq 7 999,rq 8 11,rq 9 11,rq 10 11,(11,true,0),rq 12 999,rq 13 999,rq 14 999] ?_;iterate 11 (refine ae rfl rfl fun K hK=>?_;go_simp;apply hK;clear hK K)
   refine af rfl ?_;refine al rfl fun K hK=>?_;go_simp;refine By.out.mono ?_;rintro e3 w3 ⟨rfl,hk3⟩;have hs4:=(Ds.out.drew).kept hk3;clear t0 t1 t2 t3 t4 tf n0 n1 n2 n3 nf x0 x1 x2 xf;obtain⟨t0,t1,t2,t3,t4,tf⟩:=hs4.tcells;obtain⟨n0,n1,n2,n3,nf⟩:=hs4.node_cells Dt.out;dsimp only at n0 n1 n2 n3;have hcell:=bD (hs4.kids_rd Dt.out) yj.out;have xO:=FH ((yG.out.trans ((Kept.refl (fun _=>False) _).drew) (fun _ h=>h.elim)).trans hk3 (fun _ h=>h.elim));obtain⟨x0,x1,x2,xf⟩:=aQ ((xO.out.block _ (aw wL.out) (fun h=>h)).trans wL.out);clear hk3 hs4;refine hK _ _ ?_;clear hK K;refine wpList_nil ?_;apply And.intro
   ·go_simp
   iterate 3 (refine ae rfl rfl fun K hK=>?_;go_simp;apply hK;clear hK K)
   refine ag ?_;go_wp2_with fail;go_roundw
   case rel=>exact⟨kid,nn,rfl,HH.out,xO.out⟩
   case measure =>
    have e1:=DM.out;have e2:=TM.lh_eq HH.out;simp only [intOf,F6,FW];simp;omega
end Go.Proofs.YtdobimafhbfkhaaGreat
