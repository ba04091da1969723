/- What is taken back: a transaction's log is cut, its tables turn, and what follows. -/
import Derived.Test.YtdobimafhbfkhaaGreatOY30
set_option maxHeartbeats 64000000
namespace Go.Proofs.YtdobimafhbfkhaaGreat
open Go.ChangeShapes Go.WideShapes Go.ChangeAt Go.RowKit
set_option maxRecDepth 100000
set_option linter.unusedSimpArgs false
theorem gY (T:List aq)(b:BefM)(l:List BefM):bl T (b::l)=eU (bl T l) b:=by
 unfold bl;rw [List.reverse_cons,List.foldl_append]
 rfl
theorem LogI.at {cols:List (List Bool)}{T:List aq}{log:List BefM}(h:LogI cols T log.reverse):∀(d j:Nat),d+j=log.length→LogI cols (bl T (log.drop j)) (log.take j).reverse
 | 0,j,hj=>by
  rw [Gk (by omega),FS (by omega)];exact h
 | d+1,j,hj=>by
  have ih:=h.at d (j+1) (by omega);have hlt:j<log.length:=by omega
  have e:log.drop j=log[j]::log.drop (j+1):=List.drop_eq_getElem_cons hlt;rw [e,gY];rw [F3,FP hlt,Option.toList_some,List.reverse_append]at ih;cases ih with
  | cons _ _ t=>exact t
theorem LogI.step {cols:List (List Bool)}{T:List aq}{log:List BefM}(h:LogI cols T log.reverse){j:Nat}{b:BefM}(hb:log[j]?=some b) :
  ∃(i:Nat) (m:aq),b.table=(i:Int)∧(bl T (log.drop (j+1)))[i]?=some m∧am b.key=true ∧
   ((b.r = []∧bl T (log.drop j)=(bl T (log.drop (j+1))).set i (cR m b.key))∨(b.r≠[]∧au b.r=b.key∧(cw m b.r).length≤200∧bl T (log.drop j)=(bl T (log.drop (j+1))).set i (cw m b.r))):=by
 obtain⟨hlt,hbe⟩:=FO.1 hb;have h1:=h.at (log.length-(j+1)) (j+1) (by omega);have h2:=h.at (log.length-j) j (by omega);have e:log.drop j=b::log.drop (j+1):=by rw [←hbe];exact List.drop_eq_getElem_cons hlt
 rw [e,gY]at h2 ⊢;rw [F3,hb,Option.toList_some,List.reverse_append]at h1;generalize bl T (log.drop (j+1))=T' at *;have hw2:=h2.well;cases h1 with
 | cons hw hB _ =>
  obtain⟨i,c,ht,hc,hk,hr⟩:=hB;have hi:i<T'.length:=by rw [hw.1];exact(FO.1 hc).1
  obtain⟨m,hm⟩:∃m,T'[i]?=some m:=⟨T'[i],FP hi⟩;refine⟨i,m,ht,hm,hk,?_⟩;have hu:eU T' b=T'.set i (if b.r.isEmpty then cR m b.key else cw m b.r):=by
   unfold eU;rw [ht,F6,FW,hm];rfl
  rcases hr with hr|⟨hf,hfit,hkey⟩
  ·left
   refine⟨hr,?_⟩;rw [hu,hr];rfl
  ·right
   have hne:b.r.isEmpty=false:=oA hf;rw [hne]at hu;refine⟨fun h0=>(by rw [h0]at hne;cases hne),hkey,?_,hu⟩;rw [hu]at hw2;exact(hw2.2 i c (cw m b.r) hc (by rw [FX hi];rfl)).2
section
variable {B w : World} {D : PH} {x o i j k : Nat} {X : TxM} {l : List HP} {m : aq}
theorem vX (h:TxIn B w D x o X l)(hl:X.log.length=j+1):∃(g lc:Nat) (en:BefE) (b:BefM),X.log[j]?=some b∧BefOk D en b∧w.cell? ⟨x,1,none⟩=some (.slice (some ⟨g,0,none⟩) (j+1) lc)∧j+1≤lc ∧
  (∀k v,en.cells[k]?=some v→w.cell? ⟨g,j*5+k,none⟩=some v)∧(∀q,w.frozen? ⟨x,q,none⟩=false)∧TxIn B (w.setCell ⟨x,1,none⟩ (.slice (some ⟨g,0,none⟩) j lc)) D x o { X with log:=X.log.take j } l:=by
 obtain⟨H,hH,hs⟩:=h;obtain⟨-,c1,cf⟩:=dj hs;have hN:H.es.length=j+1:=hH.log.len.trans hl;obtain⟨en,hen⟩:∃en,H.es[j]?=some en:=⟨H.es[j]'(by omega),FP _⟩;obtain⟨b,hb,hok⟩:=hH.log.get hen;obtain⟨lv,hlv⟩:∃v,H.lv=v:=⟨_,rfl⟩;have hO:=hs.own 1 rfl;rw [hlv,hN]at hO;rw [hlv]at c1;rcases hO.2.2 with ⟨_,h0⟩|⟨g,lc,cur,rfl,hg,hle,hc,hz,hx⟩
 ·omega
 have hrd:=hO.rd;refine⟨g,lc,en,b,hb,hok,c1,hle,fun k v hv=>?_,cf,⟨⟨.slice (some ⟨g,0,none⟩) j lc,H.es.take j,H.cs⟩,⟨?_,hH.curs,hH.saves,hH.three,?_⟩,?_⟩⟩
 ·obtain⟨_,_,ao,cap,hv2,_,_,_,hcell⟩:=hrd
  cases hv2;rcases hcell with h0|⟨g',og,hg',hcc⟩
  ·omega
  ·cases hg'
   have:=hcc (j*5+k) v (bB BefE.len H.es j en hen k v hv)
   rwa [Nat.zero_add]at this
 ·exact hH.log.take j
 ·show(X.log.take j).length≤10000
  have:=hH.small;rw [F0];omega
 ·have h1:Sat B D (w.setCell ⟨x,1,none⟩ (.slice (some ⟨g,0,none⟩) j lc)) (blk x (aN o (.slice (some ⟨g,0,none⟩) j lc) X.saves H.cs) tTx::aD dx 5 (.slice (some ⟨g,0,none⟩) (j+1) lc) (j+1) (H.es.flatMap BefE.cells)::orP D o ⟨X.cols,X.tabs⟩::l):=by
   rw [←iL o H.lv (.slice (some ⟨g,0,none⟩) j lc) X.saves H.cs];have:=Sat.set hs 1 (.slice (some ⟨g,0,none⟩) j lc);rw [hlv,hN]at this;rw [hlv];exact this
  have h2:=(h1.swap.own_cut (m:=j) (c:=lc) (by omega) (by omega) (Gn _)).swap;have e1:(H.es.take j).length=j:=by rw [F0];omega
  show Sat B D _ (blk x _ tTx::aD dx 5 (.slice (some ⟨g,0,none⟩) j lc) (H.es.take j).length ((H.es.take j).flatMap BefE.cells)::orP D o ⟨X.cols,X.tabs⟩::l);rw [e1,←fw BefE.len];exact h2
theorem tx_tree (h:TxIn B w D x o X l)(hm:X.tabs[i]?=some m):∃t g og pc,w.cell? ⟨x,0,none⟩=some (.pointer (some ⟨o,0,none⟩))∧w.cell? ⟨o,1,none⟩=some (.slice (some ⟨g,og,none⟩) X.tabs.length pc)∧w.cell? ⟨g,og+i,none⟩=some (.pointer (some ⟨t,0,none⟩)) ∧
  (∀k:Val,am k=true→Calls Tryz.prog 91 #[.pointer (some ⟨t,0,none⟩),k.v] w.drew fun e w'=>∃b,e = .returned (.bool b)∧TxIn B w' D x o { X with tabs:=X.tabs.set i (cR m k) } l) ∧
  (∀(v:VT) (r:List Val),RowF D v.v r→am (au r)=true→(cw m r).length≤200→Calls Tryz.prog 92 #[.pointer (some ⟨t,0,none⟩),(au r).v,v.v] w.drew fun e w'=>∃b,e = .returned (.bool b)∧TxIn B w' D x o { X with tabs:=X.tabs.set i (cw m r) } l):=by
 obtain⟨H,hH,hs⟩:=h;obtain⟨c0,_,_⟩:=dj hs;obtain⟨y,hy,hs2⟩:=gB (jd hs);obtain⟨_,d1⟩:=dJ hs2;obtain⟨t,g,og,pc,ht,hpv,hpc⟩:=iG hy hm hs2;rw [hpv]at d1;refine⟨t,g,og,pc,c0,d1,hpc,fun k hk=>(uB k hy hm ht hk hs2.drew).mono ?_,fun v r hr hk hl=>(ww v r hy hm ht hr hk hl hs2.drew).mono ?_⟩
 ·rintro e w' ⟨b,rfl,hs3⟩
  exact⟨b,rfl,H,⟨hH.log,hH.curs,hH.saves,hH.three,hH.small⟩,gA (X:={ X with tabs:=X.tabs.set i (cR m k) }) hs3⟩
 ·rintro e w' ⟨b,rfl,hs3⟩
  exact⟨b,rfl,H,⟨hH.log,hH.curs,hH.saves,hH.three,hH.small⟩,gA (X:={ X with tabs:=X.tabs.set i (cw m r) }) hs3⟩
theorem lK (h:TxIn B w D x o X l):∃_:Value,w.cell? ⟨x,0,none⟩=some (.pointer (some ⟨o,0,none⟩))∧(∀k n,X.saves[k]?=some n→w.cell? ⟨x,2+k,none⟩=some (.int .i64 n))∧(∀q,w.frozen? ⟨x,q,none⟩=false) ∧
  ∀k n,k<4→TxIn B (w.setCell ⟨x,2+k,none⟩ (.int .i64 n)) D x o { X with saves:=X.saves.set k n } l:=by
 obtain⟨H,hH,hs⟩:=h;obtain⟨c0,_,cf⟩:=dj hs;have hb:=hs.blk 0 rfl;refine⟨H.lv,c0,fun k n hn=>?_,cf,fun k n hk=>⟨H,⟨hH.log,hH.curs,by rw [FV];exact hH.saves,hH.three,hH.small⟩,?_⟩⟩
 ·simp only [World.cell?,hb]
  exact mI _ _ _ _ hn
 ·show Sat B D _ (blk x (aN o H.lv (X.saves.set k n) H.cs) tTx::_)
  rw [←jJ o H.lv X.saves H.cs (by rw [hH.saves];exact hk) n];exact Sat.set hs (2+k) (.int .i64 n)
end
def TxM.yb (X:TxM)(j:Nat):TxM:={ X with tabs:=bl X.tabs (X.log.drop j),log:=X.log.take j }
def vx (w:World)(a:Addr):Nat:=match w.cell? a with
 | some (.slice _ n _)=>n
 | _=>0
theorem vu {B w:World}{D:PH}{x o:Nat}{X:TxM}{l:List HP}(h:TxIn B w D x o X l):∃la lc,w.cell? ⟨x,1,none⟩=some (.slice la X.log.length lc):=by
 obtain⟨H,hH,hs⟩:=h;obtain⟨-,c1,-⟩:=dj hs;obtain⟨la,lc,hlv⟩:=(hs.front 1 rfl).own_shape;rw [hlv,hH.log.len]at c1;exact⟨la,lc,c1⟩
theorem rG {B w:World}{D:PH}{x o:Nat}{X:TxM}{l:List HP}(h:TxIn B w D x o X l):vx w ⟨x,1,none⟩=X.log.length:=by
 obtain⟨la,lc,h1⟩:=vu h;unfold vx;rw [h1]
theorem kh {X:TxM}{j:Nat}(h:j≤X.log.length):(X.yb j).log.length=j:=by
 show(X.log.take j).length=j;rw [F0];omega
theorem vB (X:TxM):X.yb X.log.length=X:=by
 unfold TxM.yb;rw [Gk (Gn _),FS (Gn _)]
 rfl
theorem vi (X:TxM){A j:Nat}(hj:j≤X.log.length)(ha:A≤j∨j=X.log.length)(hja:j≤A):X.yb A=X.yb j:=by
 by_cases h:A=j
 ·rw [h]
 ·have h1:j=X.log.length:=by omega
  rw [h1,vB];unfold TxM.yb;rw [Gk (by omega),FS (by omega)]
  rfl
theorem ox {X:TxM}{k:Nat}{A:Nat}(h:X.saves[k]?=some ((A:Int)+1)):X.back (k:Int)=({ X.yb A with saves:=X.saves.map (fun m=>if (A:Int)+1<m then 0 else m) },bJ 0):=by
 have h1:X.saves.getD k 0=(A:Int)+1:=by rw [FW,h];rfl
 unfold TxM.back;rw [F6,h1,if_neg (by omega)];simp only [show((A:Int)+1-1).toNat=A by omega]
 rfl
theorem nt {X:TxM}{k:Nat}(h:X.saves[k]?=some 0):X.back (k:Int)=(X,bJ 70):=by
 have h1:X.saves.getD k 0=0:=by rw [FW,h];rfl
 unfold TxM.back;rw [F6,h1,if_pos rfl]
def svf (A:Nat)(S:List Int)(q:Nat):List Int:=(S.take q).map (fun m=>if (A:Int)+1<m then 0 else m)++S.drop q
theorem lU {A:Nat}{S:List Int}{q:Nat}{n:Int}(hn:S[q]?=some n):(svf A S q)[q]?=some n:=by
 have hlt:=(FO.1 hn).1;unfold svf;rw [Gb (by simp;omega),FZ,F0,Nat.min_eq_left (by omega),Nat.sub_self,List.getElem?_drop,Nat.add_zero,hn]
theorem iq {A:Nat}{S:List Int}{q:Nat}{n:Int}(hn:S[q]?=some n):svf A S (q+1)=(svf A S q).set q (if (A:Int)+1<n then 0 else n):=by
 obtain⟨hlt,he⟩:=FO.1 hn;unfold svf;rw [List.set_append_right _ _ (by simp;omega),FZ,F0,Nat.min_eq_left (by omega),Nat.sub_self,List.drop_eq_getElem_cons hlt,FK,F3,hn];simp
theorem pN {α:Type}{l:List α}{i:Nat}{a:α}(h:l[i]?=some a):l.set i a=l:=by
 refine List.ext_getElem? fun j=>?_;by_cases hj:i=j
 ·subst hj;rw [FX (FO.1 h).1,h]
 ·rw [F8 hj]
theorem pz {A:Nat}{S:List Int}{q:Nat}{n:Int}(hn:S[q]?=some n)(h:¬(A:Int)+1<n):svf A S (q+1)=svf A S q:=by
 rw [iq hn,if_neg h];exact pN (lU hn)
theorem db {P:Program}{ops:Array Oper}{rest:List Oper}{o:Oper}{a:Act}{w:World}{Q:Exit→Act→World→Prop}(hgd:o.guard=none)(ty:TypeId)(xo yo:Operand)(ho:o.op = .index ty xo yo)(xv yv v:Value)(hx:a.eval xo=xv)(hy:a.eval yo=yv)(hrun:(Instr.index ty xv yv).run P w = .ok v w)
  (k:wpList P ops Q rest (a.put o.dst v) w):wpList P ops Q (o::rest) a w :=
 wpList_plain hgd fun _ hK=>by
  unfold Oper.wp execOp;simp only [ho,hx,hy,Sem.run_bind,Sem.run_pure,Result.andThen_ok,hrun];exact hK _ _ k
theorem rz (n1 n2 n3 n4:Int)(w:World):(Instr.index 90 (.agg #[.int .i64 n1,.int .i64 n2,.int .i64 n3,.int .i64 n4]) (.int .i64 0)).run Tryz.prog w = .ok (.int .i64 n1) w ∧
  (Instr.index 90 (.agg #[.int .i64 n1,.int .i64 n2,.int .i64 n3,.int .i64 n4]) (.int .i64 1)).run Tryz.prog w = .ok (.int .i64 n2) w ∧
  (Instr.index 90 (.agg #[.int .i64 n1,.int .i64 n2,.int .i64 n3,.int .i64 n4]) (.int .i64 2)).run Tryz.prog w = .ok (.int .i64 n3) w ∧
  (Instr.index 90 (.agg #[.int .i64 n1,.int .i64 n2,.int .i64 n3,.int .i64 n4]) (.int .i64 3)).run Tryz.prog w = .ok (.int .i64 n4) w:=⟨rfl,rfl,rfl,rfl⟩
theorem sS {B w:World}{D:PH}{x o k:Nat}{X:TxM}{l:List HP}{e:StmE}{s:StmM}(hs:StmOk D e s)(hi:s.save=(k:Int))(hk:k<4)(hlog:LogI X.cols X.tabs X.log.reverse)(hsv:∀n∈X.saves,0≤n)(h:TxIn B w D x o X l) :
  Calls Tryz.prog 69 #[.pointer (some ⟨x,0,none⟩),.agg e.cells.toArray] w (et B D x o l (X.back s.save)):=by
 obtain⟨W0,hW0,h2⟩:=ej h e.cells.toArray aZ tSt aL;have xh:=FH hW0;have h4:X.saves.length=4:=by obtain⟨H,hH,_⟩:=h;exact hH.saves
 have h5:X.log.length≤10000:=by obtain⟨H,hH,_⟩:=h;exact hH.small
 obtain⟨n0,hn0⟩:∃n0,X.saves[k]?=some n0:=⟨X.saves[k]'(by omega),FP _⟩;obtain⟨-,c0,hsvc,-,-⟩:=lK h2;have cs:=hsvc k n0 hn0;have hge:=hsv n0 (FQ hn0);have wS:=FH h2;have xW:=FH (show e.save=(k:Int)from hs.save.trans hi);have HI:=FH hi;have zL:=FH hn0;have Bm:=FH hlog;have H4:=FH h4;have H5:=FH h5;have hk4:(k:Int)<4:=by omega
 clear h hs hi hW0 h2 hlog hsv hn0 hsvc h4 h5;go_enter Tryz.func69,Tryz.ntmps69;go_upto_region 1 with fail
 rw [←xh.out];clear xh;generalize w.heap.size+1=ba at wS ⊢;generalize w.heap.size=bs at wS ⊢;obtain⟨x0,x2,x3,x4,x5,x6,x7,x17,x18,x19⟩:=aO (wS.out.sat.blk 1 rfl);rw [xW.out]at x17;refine aH [rq 0 999,rq 1 999,rq 2 999,rq 3 999,rq 4 999,rq 5 999,rq 6 999,rq 7 999] ?_;iterate 8 (refine ae rfl rfl fun K hK=>?_;go_simp;apply hK;clear hK K)
 refine ag ?_;have wG:=FH (wS.out.kept (Kept.refl (fun _=>False) W0).drew);clear wS c0 cs x0 x2 x3 x4 x5 x6 x7 x17 x18 x19;generalize W0.drew=W1 at wG ⊢;rcases Int.lt_or_eq_of_le hge with hpos|h0
 ·obtain⟨A,hA⟩:∃A:Nat,n0=(A:Int)+1:=⟨(n0-1).toNat,by omega⟩
  have hz:(n0 == 0)=false:=by simp;omega
  have hz2:n0≠0:=by omega
  have HA:=FH hA;have HE:=FH (show X.back s.save=({ X.yb A with saves:=X.saves.map (fun m=>if (A:Int)+1<m then 0 else m) },bJ 0) by rw [HI.out];exact ox (by rw [zL.out,hA]));clear hA hge hpos;have wJ:=FH (show TxIn B W1 D x o (X.yb X.log.length) (blk ba aZ aL::blk bs e.cells.toArray tSt::l) by rw [vB];exact wG.out);clear wG;go_wp2_with fail
  go_loopw [] (fun wr=>∃(j:Nat),j≤X.log.length∧(A≤j∨j=X.log.length)∧TxIn B wr D x o (X.yb j) (blk ba aZ aL::blk bs e.cells.toArray tSt::l)) (fun wr=>vx wr ⟨x,1,none⟩)
  case atStart=>exact⟨X.log.length,Gn _,.inr rfl,wJ.out⟩
  case round =>
   obtain⟨N1,hN1,hAj,htx⟩:=hrel;have xE:=FH htx;have EE:=FH hAj;have zZ:=FH hN1;have yg:=FH (rG htx);rw [kh hN1]at yg;clear htx hAj wJ;by_cases hlt:A+1≤N1
   ·obtain⟨j,rfl⟩:∃j,N1=j+1:=⟨N1-1,by omega⟩
    obtain⟨g,lc,en,b,hb,hok,c1,hlc,hec,-,-⟩:=vX xE.out (kh zZ.out);have hb2:X.log[j]?=some b:=by
     have h1:(X.log.take (j+1))[j]?=some b:=hb;rw [List.getElem?_take]at h1
     simpa using h1
    have xm:=FH (Bm.out.step hb2);have yn:=FH hok;have hg0:n0≤((j+1:Nat):Int):=by have:=HA.out;omega
    have e0:=hec 0 _ rfl;rw [Nat.add_zero]at e0;have e1:=hec 1 _ rfl;have e2:=hec 2 _ rfl;have e3:=hec 3 _ rfl;have e4:=hec 4 _ rfl;have FF:=FH hec;have hjj:(j:Int)<((j+1:Nat):Int):=by omega
    have hw1:IntKind.i64.wrap (((j+1:Nat):Int)-1)=(j:Int):=by rw [Gr _ (by have:=H5.out;omega)];omega
    have C1:=FH c1;have AD:=FH hlc;clear hec hb hb2 hok hlt hN1 hlc;generalize hNN:j+1=N1 at *;have yV:=FH hNN;clear hNN;go_upto_region 5 with fail
    refine aH [rq 0 13,rq 1 13,rq 2 13,rq 3 13,rq 4 13,rq 5 13,rq 6 13,rq 7 13,rq 8 13,rq 9 13,rq 10 13,rq 11 13,(12,true,0),(13,true,0)] ?_;(iterate 12 (refine ae rfl rfl fun K hK=>?_;go_simp;apply hK;clear hK K));refine af rfl ?_;refine wpList_plain rfl fun K hK=>?_;go_simp;refine hK _ _ ?_;clear hK K;refine wpList_nil ?_;have AE:=FH (((Kept.refl (fun _=>False) wr).alloc (.cells #[.int .i64 0,.bool false,.int .i64 0,.string ⟨#[]⟩,.slice none 0 0] dx)).drew);have wI:=FH ((xE.out.alloc #[.int .i64 0,.bool false,.int .i64 0,.string ⟨#[]⟩,.slice none 0 0] dx).kept (Kept.refl (fun _=>False) _).drew);have c1':=AE.out.cell' c1 (fun h=>h);have e0':=AE.out.cell' e0 (fun h=>h);have e1':=AE.out.cell' e1 (fun h=>h);have e2':=AE.out.cell' e2 (fun h=>h);have e3':=AE.out.cell' e3 (fun h=>h);have e4':=AE.out.cell' e4 (fun h=>h);clear c1 e0 e1 e2 e3 e4;obtain⟨W3,hW3⟩:∃W,W=(wr.alloc (.cells #[.int .i64 0,.bool false,.int .i64 0,.string ⟨#[]⟩,.slice none 0 0] dx)).drew:=⟨_,rfl⟩;rw [←hW3]at wI c1' e0' e1' e2' e3' e4' ⊢;clear hW3 AE xE;generalize wr.heap.size=bb at wI ⊢;apply And.intro
    ·go_simp
    refine af rfl ?_;refine ay rfl _ _ _ rfl dx bb rfl en.cells rfl _ wI.out (by kernel_rfl) rfl en.one ?_;intro w4 htx4;refine wpList_nil ?_;have wO:=FH htx4;clear htx4 wI c1' e0' e1' e2' e3' e4';apply And.intro
    ·go_simp
    refine ag ?_;obtain⟨g2,lc2,-,-,-,-,c1,hlc2,-,cf,htx5⟩:=vX wO.out (by rw [kh zZ.out];exact yV.out.symm);rw [yV.out]at c1 hlc2;have wT:=FH (htx5.kept (Kept.refl (fun _=>False) _).drew);have hjc:j≤lc2:=by omega
    have hjc2:(j:Int)≤(lc2:Int):=by omega
    clear htx5 wO;go_upto_region 6 with fail
    refine aH [rq 0 14,rq 1 14,rq 2 14,rq 3 14,rq 4 14,rq 5 14,rq 6 14,rq 7 14,rq 8 14,rq 9 14,rq 10 14,rq 11 14,rq 12 14,rq 13 14,(14,true,0)] ?_;(iterate 14 (refine ae rfl rfl fun K hK=>?_;go_simp;apply hK;clear hK K));refine af rfl ?_;refine wpList_plain rfl fun K hK=>?_;go_simp;refine hK _ _ ?_;clear hK K;refine wpList_nil ?_;clear c1 cf;obtain⟨W6,hW6⟩:∃W,W=(w4.setCell ⟨x,1,none⟩ (.slice (some ⟨g2,0,none⟩) j lc2)).drew:=⟨_,rfl⟩;rw [←hW6]at wT ⊢;clear hW6;apply And.intro
    ·go_simp
    refine ag ?_;obtain⟨i,m,hbt,hmt,hkr,hway⟩:=xm.out;obtain⟨t,tg,og,pc,c0,d1,hpc,hdel,hput⟩:=tx_tree wT.out hmt;have hlti:(i:Int)<((bl X.tabs (X.log.drop N1)).length:Int):=by have:=(FO.1 hmt).1;omega
    have d1':W6.cell? ⟨o,1,none⟩=some (.slice (some ⟨tg,og,none⟩) (bl X.tabs (X.log.drop N1)).length pc):=d1;clear d1;obtain⟨b0,b1,b2,b3,b4,bf⟩:=pC (show W6.heap[bb]?=some (.cells #[.int .i64 en.table,.bool en.key.t,.int .i64 en.key.n,.string en.key.s,.slice en.r.ro en.r.rn en.r.rc] dx (0,0))from wT.out.sat.blk 0 rfl);rw [yn.out.1,hbt]at b0;rw [yn.out.2.1]at b1 b2 b3;have hrn:en.r.rn=b.r.length:=by
     obtain⟨_,_,ao,c,h,_⟩:=yn.out.2.2.1;have h2:Value.slice en.r.ro en.r.rn en.r.rc = .slice ao b.r.length c:=h;exact(Value.slice.inj h2).2.1
    rw [hrn]at b4;generalize hTN:(bl X.tabs (X.log.drop N1)).length=TN at *;rcases hway with ⟨hbr,hyb⟩|⟨hbr,hbk,hpl,hyb⟩
    ·have Cu:=FH (show({ X.yb N1 with tabs:=(X.yb N1).tabs.set i (cR m b.key),log:=(X.yb N1).log.take j }:TxM)=X.yb j by
      unfold TxM.yb;rw [hyb];simp only [List.take_take];rw [Nat.min_eq_left (by have:=yV.out;omega)])
     have HD:=FH (hdel b.key hkr);rw [hbr,List.length_nil]at b4;clear hdel hput hyb hbr hbt hmt hkr hrn hTN Bm xm yn;go_upto_region 8 with fail
     refine aH [rq 0 13,rq 1 13,rq 2 13,rq 3 13,rq 4 13,rq 5 13,rq 6 13,rq 7 13,rq 8 13,rq 9 13,rq 10 13,rq 11 13,rq 12 13,(13,true,0)] ?_;(iterate 13 (refine ae rfl rfl fun K hK=>?_;go_simp;apply hK;clear hK K));refine af rfl ?_;refine al rfl fun K hK=>?_;go_simp;refine HD.out.mono ?_;rintro e7 w7 ⟨bo,rfl,htx7⟩;have wP:=FH (show TxIn B w7 D x o (X.yb j) (blk ba aZ aL::blk bs e.cells.toArray tSt::l)from Cu.out▸htx7.drop);clear htx7 HD wT Cu c0 d1' hpc b0 b1 b2 b3 b4 bf;refine hK _ _ ?_;clear hK K;refine wpList_nil ?_;apply And.intro
     ·go_simp
     refine ag ?_;go_wp2_with fail;go_roundw
     case rel=>exact⟨j,by have:=zZ.out;have:=yV.out;omega,.inl (by have:=HA.out;have:=yV.out;omega),wP.out⟩
     case measure=>rw [rG wP.out,kh (by have:=zZ.out;have:=yV.out;omega),yg.out];have:=yV.out;omega
    ·have Cu:=FH (show({ X.yb N1 with tabs:=(X.yb N1).tabs.set i (cw m b.r),log:=(X.yb N1).log.take j }:TxM)=X.yb j by
      unfold TxM.yb;rw [hyb];simp only [List.take_take];rw [Nat.min_eq_left (by have:=yV.out;omega)])
     have HD:=FH (hput en.r b.r yn.out.2.2 (by rw [hbk];exact hkr) hpl);rw [hbk]at HD;have hbl:0<b.r.length:=List.length_pos_iff.2 hbr;have hen4:=hrn;generalize hLB:b.r.length=LB at *;have hlb1:(LB:Int)≠0:=by omega
     have hlb2:((LB:Int) == 0)=false:=by simp;omega
     have DV:=FH (show en.r.v = .slice en.r.ro LB en.r.rc by show Value.slice en.r.ro en.r.rn en.r.rc=_;rw [hen4]);rw [DV.out]at HD;clear hdel hput hyb hbr hbt hmt hkr hrn hTN Bm xm yn hbk hpl hen4 hLB;go_upto_region 9 with fail
     refine aH [rq 0 15,rq 1 15,rq 2 15,rq 3 15,rq 4 15,rq 5 15,rq 6 15,rq 7 15,rq 8 15,rq 9 15,rq 10 15,rq 11 15,rq 12 15,rq 13 15,rq 14 15,(15,true,0)] ?_;(iterate 15 (refine ae rfl rfl fun K hK=>?_;go_simp;apply hK;clear hK K));refine af rfl ?_;refine al rfl fun K hK=>?_;go_simp;refine HD.out.mono ?_;rintro e7 w7 ⟨bo,rfl,htx7⟩;have wP:=FH (show TxIn B w7 D x o (X.yb j) (blk ba aZ aL::blk bs e.cells.toArray tSt::l)from Cu.out▸htx7.drop);clear htx7 HD wT Cu c0 d1' hpc b0 b1 b2 b3 b4 bf;refine hK _ _ ?_;clear hK K;refine wpList_nil ?_;apply And.intro
     ·go_simp
     refine ag ?_;go_wp2_with fail;go_roundw
     case rel=>exact⟨j,by have:=zZ.out;have:=yV.out;omega,.inl (by have:=HA.out;have:=yV.out;omega),wP.out⟩
     case measure=>rw [rG wP.out,kh (by have:=zZ.out;have:=yV.out;omega),yg.out];have:=yV.out;omega
   ·obtain⟨la,lc,c1⟩:=vu xE.out
    rw [kh zZ.out]at c1;have hg0:¬(n0≤(N1:Int)):=by have:=HA.out;omega
    have Fg:=FH (vi X zZ.out EE.out (by omega));obtain⟨lv,c0,hsc,cf,-⟩:=lK xE.out;obtain⟨n1,n2,n3,n4,hns⟩:∃n1 n2 n3 n4,X.saves = [n1,n2,n3,n4]:=by
     have h4:=H4.out
     match hq:X.saves,h4 with
     | [a,b,c,d],_=>exact⟨a,b,c,d,rfl⟩
    have hns':(X.yb N1).saves = [n1,n2,n3,n4]:=hns;rw [hns']at hsc;have s0:=hsc 0 n1 rfl;have s1:=hsc 1 n2 rfl;have s2:=hsc 2 n3 rfl;have s3:=hsc 3 n4 rfl;rw [Nat.add_zero]at s0;simp only [Nat.reduceAdd]at s1 s2 s3;have xr:=FH hns;clear hsc hns hns' hlt;have A6:=FH (show TxIn B wr D x o { X.yb N1 with saves:=svf A X.saves 0 } (blk ba aZ aL::blk bs e.cells.toArray tSt::l)from xE.out);clear Bm EE zZ yg xE;go_wp2_with fail;clear c0 c1 cf s0 s1 s2 s3 hg0
    go_loopw [90] (fun idx wq=>∃(q:Nat),idx = .int .i64 q∧q≤4∧TxIn B wq D x o { X.yb N1 with saves:=svf A X.saves q } (blk ba aZ aL::blk bs e.cells.toArray tSt::l)) (fun idx _=>4-(intOf idx).toNat)
    case atStart=>exact⟨0,rfl,Gp _,A6.out⟩
    case round =>
     obtain⟨q,rfl,hq,htx⟩:=hrel;have xE:=FH htx;clear htx A6;by_cases hq4:q<4
     ·have hq4':(q:Int)<4:=by omega
      obtain⟨r0,r1,r2,r3⟩:=rz n1 n2 n3 n4 wr;have R0:=FH r0;have R1:=FH r1;have R2:=FH r2;have R3:=FH r3;clear r0 r1 r2 r3;obtain⟨lv2,c0,hsc,cf,hset⟩:=lK xE.out;have hcase:q=0∨q=1∨q=2∨q=3:=by omega
      rcases hcase with rfl|rfl|rfl|rfl
      ·have hnq:X.saves[0]?=some n1:=by rw [xr.out];rfl
       have sq:=hsc 0 n1 (lU hnq);simp only [Nat.reduceAdd,Nat.add_zero]at sq;by_cases hgt:n0<n1
       ·have HQ:=FH (show TxIn B (wr.setCell ⟨x,2+0,none⟩ (.int .i64 0)) D x o { X.yb N1 with saves:=svf A X.saves (0+1) } (blk ba aZ aL::blk bs e.cells.toArray tSt::l) by rw [iq hnq,if_pos (by have:=HA.out;omega)];exact hset 0 0 (by omega))
        simp only [Nat.reduceAdd,Nat.add_zero]at HQ;clear hnq hset hsc xE;go_wp2_with (refine db rfl _ _ _ rfl _ _ _ rfl rfl R0.out ?_);go_roundw
        case rel=>exact⟨0+1,by go_num,by omega,HQ.out⟩
        case measure=>simp [intOf]
       ·have HQ:=FH (show TxIn B wr D x o { X.yb N1 with saves:=svf A X.saves (0+1) } (blk ba aZ aL::blk bs e.cells.toArray tSt::l) by rw [pz hnq (by have:=HA.out;omega)];exact xE.out)
        clear hnq hset hsc xE;go_wp2_with (refine db rfl _ _ _ rfl _ _ _ rfl rfl R0.out ?_);go_roundw
        case rel=>exact⟨0+1,by go_num,by omega,HQ.out⟩
        case measure=>simp [intOf]
      ·have hnq:X.saves[1]?=some n2:=by rw [xr.out];rfl
       have sq:=hsc 1 n2 (lU hnq);simp only [Nat.reduceAdd,Nat.add_zero]at sq;by_cases hgt:n0<n2
       ·have HQ:=FH (show TxIn B (wr.setCell ⟨x,2+1,none⟩ (.int .i64 0)) D x o { X.yb N1 with saves:=svf A X.saves (1+1) } (blk ba aZ aL::blk bs e.cells.toArray tSt::l) by rw [iq hnq,if_pos (by have:=HA.out;omega)];exact hset 1 0 (by omega))
        simp only [Nat.reduceAdd,Nat.add_zero]at HQ;clear hnq hset hsc xE;go_wp2_with (refine db rfl _ _ _ rfl _ _ _ rfl rfl R1.out ?_);go_roundw
        case rel=>exact⟨1+1,by go_num,by omega,HQ.out⟩
        case measure=>simp [intOf]
       ·have HQ:=FH (show TxIn B wr D x o { X.yb N1 with saves:=svf A X.saves (1+1) } (blk ba aZ aL::blk bs e.cells.toArray tSt::l) by rw [pz hnq (by have:=HA.out;omega)];exact xE.out)
        clear hnq hset hsc xE;go_wp2_with (refine db rfl _ _ _ rfl _ _ _ rfl rfl R1.out ?_);go_roundw
        case rel=>exact⟨1+1,by go_num,by omega,HQ.out⟩
        case measure=>simp [intOf]
      ·have hnq:X.saves[2]?=some n3:=by rw [xr.out];rfl
       have sq:=hsc 2 n3 (lU hnq);simp only [Nat.reduceAdd,Nat.add_zero]at sq;by_cases hgt:n0<n3
       ·have HQ:=FH (show TxIn B (wr.setCell ⟨x,2+2,none⟩ (.int .i64 0)) D x o { X.yb N1 with saves:=svf A X.saves (2+1) } (blk ba aZ aL::blk bs e.cells.toArray tSt::l) by rw [iq hnq,if_pos (by have:=HA.out;omega)];exact hset 2 0 (by omega))
        simp only [Nat.reduceAdd,Nat.add_zero]at HQ;clear hnq hset hsc xE;go_wp2_with (refine db rfl _ _ _ rfl _ _ _ rfl rfl R2.out ?_);go_roundw
        case rel=>exact⟨2+1,by go_num,by omega,HQ.out⟩
        case measure=>simp [intOf]
       ·have HQ:=FH (show TxIn B wr D x o { X.yb N1 with saves:=svf A X.saves (2+1) } (blk ba aZ aL::blk bs e.cells.toArray tSt::l) by rw [pz hnq (by have:=HA.out;omega)];exact xE.out)
        clear hnq hset hsc xE;go_wp2_with (refine db rfl _ _ _ rfl _ _ _ rfl rfl R2.out ?_);go_roundw
        case rel=>exact⟨2+1,by go_num,by omega,HQ.out⟩
        case measure=>simp [intOf]
      ·have hnq:X.saves[3]?=some n4:=by rw [xr.out];rfl
       have sq:=hsc 3 n4 (lU hnq);simp only [Nat.reduceAdd,Nat.add_zero]at sq;by_cases hgt:n0<n4
       ·have HQ:=FH (show TxIn B (wr.setCell ⟨x,2+3,none⟩ (.int .i64 0)) D x o { X.yb N1 with saves:=svf A X.saves (3+1) } (blk ba aZ aL::blk bs e.cells.toArray tSt::l) by rw [iq hnq,if_pos (by have:=HA.out;omega)];exact hset 3 0 (by omega))
        simp only [Nat.reduceAdd,Nat.add_zero]at HQ;clear hnq hset hsc xE;go_wp2_with (refine db rfl _ _ _ rfl _ _ _ rfl rfl R3.out ?_);go_roundw
        case rel=>exact⟨3+1,by go_num,by omega,HQ.out⟩
        case measure=>simp [intOf]
       ·have HQ:=FH (show TxIn B wr D x o { X.yb N1 with saves:=svf A X.saves (3+1) } (blk ba aZ aL::blk bs e.cells.toArray tSt::l) by rw [pz hnq (by have:=HA.out;omega)];exact xE.out)
        clear hnq hset hsc xE;go_wp2_with (refine db rfl _ _ _ rfl _ _ _ rfl rfl R3.out ?_);go_roundw
        case rel=>exact⟨3+1,by go_num,by omega,HQ.out⟩
        case measure=>simp [intOf]
     ·obtain rfl:q=4:=by omega
      have Cv:=FH (show TxIn B wr D x o { X.yb A with saves:=X.saves.map (fun m=>if (A:Int)+1<m then 0 else m) } (blk ba aZ aL::blk bs e.cells.toArray tSt::l) by
       have h1:svf A X.saves 4=X.saves.map (fun m=>if (A:Int)+1<m then 0 else m):=by
        unfold svf;rw [FS (by have:=H4.out;omega),Gk (by have:=H4.out;omega),List.append_nil]
       rw [←h1,Fg.out];exact xE.out)
      clear xE;go_wp2_with (refine ay rfl _ _ _ rfl aL ba rfl [.int .i64 0,.slice none 0 0,.int .i64 0] rfl aZ Cv.out (by kernel_rfl) rfl (by intro u hu;simp at hu;rcases hu with rfl|rfl|rfl<;>rfl) ?_;intro w6 hs6;have wK:=FH hs6;clear hs6 Cv);refine bodyPost_ret (av rfl _ _ rfl (aJ rfl (aj (wK.out.sat.blk 0 rfl)))) rfl ?_;rw [HE.out];exact⟨none,0,0,D,rfl,PH.le.refl _,RowsF.nil _,wK.out.drop.drop⟩
 ·subst h0
  have HE:=FH (show X.back s.save=(X,bJ 70) by rw [HI.out];exact nt zL.out);go_wp2_with (refine ay rfl _ _ _ rfl aL ba rfl [.int .i64 70,.slice none 0 0,.int .i64 0] rfl aZ wG.out (by kernel_rfl) rfl (by intro u hu;simp at hu;rcases hu with rfl|rfl|rfl<;>rfl) ?_;intro w6 hs6;have wK:=FH hs6;clear hs6 wG);refine bodyPost_ret (av rfl _ _ rfl (aJ rfl (aj (wK.out.sat.blk 0 rfl)))) rfl ?_;rw [HE.out];exact⟨none,0,0,D,rfl,PH.le.refl _,RowsF.nil _,wK.out.drop.drop⟩
end Go.Proofs.YtdobimafhbfkhaaGreat
