/- The order of values: total; binary search by it, and what follows. -/
import Derived.Test.YtdobimafhbfkhaaGreatOY4
import Derived.Test.YtdobimafhbfkhaaGreatOY8
import Derived.Deep.Cut
set_option maxHeartbeats 64000000
namespace Go.Proofs.YtdobimafhbfkhaaGreat
open Go.ChangeShapes Go.WideShapes Go.ChangeAt Go.RowKit
set_option maxRecDepth 100000
set_option linter.unusedSimpArgs false
theorem lL : ∀(x y:List UInt8),Op.bytesLess x y=true→Op.bytesLess y x=false
 | _,[],h=>by simp [Op.bytesLess]at h
 | [],_::_,_=>by simp [Op.bytesLess]
 | a::x,b::y,h=>by
  simp only [Op.bytesLess,Bool.or_eq_true,Bool.and_eq_true,decide_eq_true_eq,beq_iff_eq]at h;simp only [Op.bytesLess,Bool.or_eq_false_iff,Bool.and_eq_false_iff,decide_eq_false_iff_not,beq_eq_false_iff_ne];rw [UInt8.lt_iff_toNat_lt]at *;rcases h with h|⟨rfl,h⟩
  ·exact⟨by omega,.inl (fun e=>by subst e;omega)⟩
  ·exact⟨by omega,.inr (lL x y h)⟩
theorem iD : ∀(x y:List UInt8),Op.bytesLess x y=false→Op.bytesLess y x=false→x=y
 | [],[],_,_=>rfl
 | [],_::_,h,_=>by simp [Op.bytesLess]at h
 | _::_,[],_,h=>by simp [Op.bytesLess]at h
 | a::x,b::y,h,h'=>by
  simp only [Op.bytesLess,Bool.or_eq_false_iff,Bool.and_eq_false_iff,decide_eq_false_iff_not,beq_eq_false_iff_ne]at h h';rw [UInt8.lt_iff_toNat_lt]at *;obtain rfl:a=b:=UInt8.toNat_inj.1 (by omega);rcases h.2 with h2|h2
  ·exact absurd rfl h2
  ·rcases h'.2 with h3|h3
   ·exact absurd rfl h3
   ·rw [iD x y h2 h3]
theorem pG : ∀(x y z:List UInt8),Op.bytesLess x y=true→Op.bytesLess y z=true→Op.bytesLess x z=true
 | _,[],_,h,_=>by simp [Op.bytesLess]at h
 | _,_::_,[],_,h=>by simp [Op.bytesLess]at h
 | [],_::_,_::_,_,_=>by simp [Op.bytesLess]
 | a::x,b::y,c::z,h,h'=>by
  simp only [Op.bytesLess,Bool.or_eq_true,Bool.and_eq_true,decide_eq_true_eq,beq_iff_eq]at h h' ⊢;rw [UInt8.lt_iff_toNat_lt]at *;rcases h with h|⟨rfl,h⟩
  ·rcases h' with h'|⟨rfl,h'⟩
   ·exact .inl (by omega)
   ·exact .inl h
  ·rcases h' with h'|⟨rfl,h'⟩
   ·exact .inl h'
   ·exact .inr ⟨rfl,pG x y z h h'⟩
theorem iO (a b:ByteArray):eM b a = - eM a b:=by
 unfold eM;cases h1:Op.bytesLess a.toList b.toList
 ·cases h2:Op.bytesLess b.toList a.toList
  ·have:=iD _ _ h1 h2
   simp [this]
  ·have:¬(a.toList == b.toList)=true:=fun e=>by
    have:=eq_of_beq e;rw [this]at h1 h2;rw [h1]at h2;cases h2
   simp [this]
 ·have h2:=lL _ _ h1
  have:¬(b.toList == a.toList)=true:=fun e=>by
   have:=eq_of_beq e;rw [this]at h1 h2;rw [h1]at h2;cases h2
  simp [h2,this]
theorem oD {a b:ByteArray}:eM a b≤0↔Op.bytesLess b.toList a.toList=false:=by
 unfold eM;cases h1:Op.bytesLess a.toList b.toList
 ·by_cases h2:(a.toList == b.toList)=true
  ·have:=eq_of_beq h2
   rw [this]at h1;simp [h2,this,h1]
  ·simp only [Bool.false_eq_true,if_false,h2]
   constructor
   ·intro h;omega
   ·intro h;exact absurd (iD _ _ h1 h) (fun e=>h2 (by simp [e]))
 ·simp [lL _ _ h1]
theorem rE {a b c:ByteArray}(h:eM a b≤0)(h':eM b c≤0):eM a c≤0:=by
 rw [oD]at *;cases h3:Op.bytesLess c.toList a.toList with
 | false=>rfl
 | true =>
  cases h4:Op.bytesLess a.toList b.toList with
  | true=>rw [pG _ _ _ h3 h4]at h';cases h'
  | false =>
   have:=iD _ _ h4 h;rw [this]at h3;rw [h3]at h';cases h'
theorem cmpS_eq {a b:ByteArray}(h:eM a b=0):a=b:=by
 have h1:Op.bytesLess b.toList a.toList=false:=oD.1 (by omega);have h2:Op.bytesLess a.toList b.toList=false:=oD.1 (by rw [iO];omega);have h3:=iD _ _ h2 h1;have:=mU a b;rw [h3]at this
 simpa using this
theorem cW (a b:Val):ai b a = - ai a b:=by
 obtain⟨at_,an,as_⟩:=a;obtain⟨bt,bn,bs⟩:=b;cases at_<;>cases bt<;>simp [ai,iO as_ bs];unfold js
 repeat' split
 all_goals omega
theorem dd (a:Val):ai a a=0:=by have:=cW a a;omega
theorem nW {a b c:Val}(h:ai a b≤0)(h':ai b c≤0):ai a c≤0:=by
 obtain⟨at_,an,as_⟩:=a;obtain⟨bt,bn,bs⟩:=b;obtain⟨ct,cn,cs⟩:=c;cases at_<;>cases bt<;>cases ct<;>simp [ai]at h h' ⊢
 ·unfold js at *
  repeat' split at h
  all_goals repeat' split at h'
  all_goals repeat' split
  all_goals omega
 ·exact rE h h'
theorem jN {a b c:Val}(h:ai a b≤0)(h':ai b c<0):ai a c<0:=by
 by_cases h3:ai a c<0
 ·exact h3
 ·have h4:ai c a≤0:=by rw [cW];omega
  have h5:=nW h4 h;rw [cW]at h5;omega
theorem jI {a b c:Val}(h:ai a b<0)(h':ai b c≤0):ai a c<0:=by
 by_cases h3:ai a c<0
 ·exact h3
 ·have h4:ai c a≤0:=by rw [cW];omega
  have h5:=nW h' h4;rw [cW]at h5;omega
theorem fC {a b c:Val}(h:ai a b<0)(h':ai b c<0):ai a c<0:=jN (by omega) h'
theorem eN (a b:Val):ai a b > 0↔ai b a<0:=by rw [cW a b];omega
theorem jm {a b:Val}(ha:am a=true)(hb:am b=true)(h:ai a b=0):a=b:=by
 obtain⟨at_,an,as_⟩:=a;obtain⟨bt,bn,bs⟩:=b;cases at_<;>cases bt<;>simp [ai,am]at h ha hb ⊢
 ·refine⟨?_,by rw [ha,hb]⟩
  unfold js at h
  repeat' split at h
  all_goals omega
 ·exact⟨by omega,cmpS_eq h⟩
theorem rW {cmp:Nat→Int}{n p:Nat}(h1:∀i,i<p→cmp i<0)(h2:∀i,p≤i→i<n→¬cmp i<0):∀(i j:Nat),i≤p→p≤j→j≤n→bsF cmp i j=p
 | i,j,hi,hj,hn=>by
  by_cases h:i<j
  ·rw [vJ h]
   split
   ·rename_i hc
    exact rW h1 h2 _ _ (by
     by_cases hq:(i+j) / 2+1≤p
     ·exact hq
     ·exact absurd hc (h2 _ (by omega) (by omega))) hj hn
   ·rename_i hc
    exact rW h1 h2 _ _ hi (by
     by_cases hq:p≤(i+j) / 2
     ·exact hq
     ·exact absurd (h1 _ (by omega)) hc) (by omega)
  ·rw [vH h];omega
termination_by i j=>j-i
abbrev cJ (ks:List Val):Prop:=ks.Pairwise (fun a b=>ai a b<0)
theorem iQ {keys:List Val}{h:Nat}{x:Val}(k:Val)(hx:keys[h]?=some x):jj keys k h=ai x k:=mp k hx
theorem kP (k:Val):∀ {ks:List Val},cJ ks→∃p,p≤ks.length∧(∀i x,ks[i]?=some x→(i<p↔ai x k<0))
 | [],_=>⟨0,Gn _,fun i x h=>by simp at h⟩
 | a::ks,h=>by
  obtain⟨p,hp,hx⟩:=kP k (List.pairwise_cons.1 h).2;by_cases ha:ai a k<0
  ·refine⟨p+1,by simpa using hp,fun i x hi=>?_⟩
   cases i with
   | zero=>simp at hi;subst hi;simp [ha]
   | succ i=>have:=hx i x (by simpa using hi);omega
  ·refine⟨0,Gp _,fun i x hi=>?_⟩
   cases i with
   | zero=>simp at hi;subst hi;simp [ha]
   | succ i =>
    have h1:=(List.pairwise_cons.1 h).1 x (FQ (by simpa using hi));have:¬ai x k<0:=fun h2=>ha (fC h1 h2);simp [this]
theorem go {ks:List Val}(k:Val)(h:cJ ks):∀i x,ks[i]?=some x→(i<bg ks k↔ai x k<0):=by
 obtain⟨p,hp,hx⟩:=kP k h;have e:bg ks k=p:=by
  refine rW (n:=ks.length) (fun i hi=>?_) (fun i hi hn=>?_) 0 ks.length (Gp _) hp (Gn _)
  ·obtain⟨x,hxx⟩:∃x,ks[i]?=some x:=⟨_,FP (by omega)⟩
   rw [iQ k hxx];exact(hx i x hxx).1 hi
  ·obtain⟨x,hxx⟩:∃x,ks[i]?=some x:=⟨_,FP (by omega)⟩
   rw [iQ k hxx];exact fun hc=>by have:=(hx i x hxx).2 hc;omega
 rw [e];exact hx
theorem gn {ks:List Val}(k:Val):dW ks k=true↔∃x,ks[bg ks k]?=some x∧ai x k=0:=by
 unfold dW;simp only [Bool.and_eq_true,decide_eq_true_eq]
 constructor
 ·rintro⟨h1,h2⟩
  exact⟨_,FP h1,by rw [←h2,iQ k (FP h1)]⟩
 ·rintro⟨x,h1,h2⟩
  exact⟨(FO.1 h1).1,by rw [iQ k h1];exact h2⟩
structure TM where
 nodes:List NodeM
 free:List Nat
 k:Num
def aS (leaf:Bool):NodeM:=⟨leaf,[],[],[]⟩
def TreeA (B:World)(D:PH)(w:World)(t:Nat)(T:TM)(l:List HP):Prop:=∃nv fv ns,ns.map Prod.snd=T.nodes∧TreeS B D w t nv fv ns T.free T.k l
theorem TreeA.kept {B w w':World}{D:PH}{t:Nat}{T:TM}{l:List HP}(h:TreeA B D w t T l)(hk:Kept (fun _=>False) w w'):TreeA B D w' t T l:=by
 obtain⟨nv,fv,ns,h1,h2⟩:=h;exact⟨nv,fv,ns,h1,h2.kept hk⟩
theorem TreeA.drew {B w:World}{D:PH}{t:Nat}{T:TM}{l:List HP}(h:TreeA B D w t T l):TreeA B D w.drew t T l:=h.kept ((Kept.refl _ _).drew)
theorem aK {ns:List NP}{nodes:List NodeM}(h:ns.map Prod.snd=nodes){i:Nat}{m:NodeM}(hi:nodes[i]?=some m):∃v,ns[i]?=some (v,m):=by
 subst h;rw [Gg]at hi;cases hn:ns[i]? with
 | none=>rw [hn]at hi;cases hi
 | some p=>rw [hn]at hi;cases hi;exact⟨p.1,rfl⟩
def TM.slot (T:TM)(leaf:Bool):Nat×TM:=match T.free.getLast? with
 | some i=>(i,{ T with nodes:=T.nodes.set i (aS leaf),free:=T.free.dropLast })
 | none=>(T.nodes.length,{ T with nodes:=T.nodes ++ [aS leaf] })
theorem lu {B w:World}{D:PH}{t:Nat}{T:TM}{l:List HP}(leaf:Bool)(hfr:∀i,T.free.getLast?=some i→i<T.nodes.length)(hbig:T.nodes.length≤1000000)(hfb:T.free.length≤1000000)(h:TreeA B D w t T l) :
  Calls Tryz.prog 107 #[.pointer (some ⟨t,0,none⟩),.bool leaf] w fun e w'=>e = .returned (.int .i64 (T.slot leaf).1)∧TreeA B D w' t (T.slot leaf).2 l:=by
 obtain⟨nodes,free,k⟩:=T;obtain⟨nv,fv,ns,hns,hs⟩:=h;dsimp only at *;subst hns;rw [FZ]at hbig;obtain⟨t0,t1,t2,t3,t4,tf⟩:=hs.tcells;obtain⟨o,c,rfl,hnm⟩:=hs.nv_any;obtain⟨fo,fc,rfl,hfm⟩:=hs.fv_any;have hcc:free = []∨∃fr i,free=fr ++ [i]:=by
  rcases List.eq_nil_or_concat free with h|⟨fr,i,h⟩
  ·exact .inl h
  ·exact .inr ⟨fr,i,by rw [h,List.concat_eq_append]⟩
 rcases hcc with rfl|⟨fr,i,rfl⟩
 ·have HS:=FH hs
  have hslot:TM.slot ⟨ns.map Prod.snd,[],k⟩ leaf=(ns.length,⟨ns.map Prod.snd ++ [aS leaf],[],k⟩):=by simp [TM.slot]
  have Aj:=FH hslot;have hnew:=Sat.alloc hs #[.bool leaf,.slice none 0 0,.slice none 0 0,.slice none 0 0] tN;have hb:=bC (size:=4) (n:=1) hnew.heap_blk rfl (by unfold maxLen;omega);have hn1:=(hnew.swap.perm ((List.Perm.swap _ _ _).cons _)).swap;have HN:=FH hn1;have HB:=FH hb;obtain⟨i0,hi,hz0,hz1,hz2⟩:=info_parts u6';have HI:=FH (And.intro hi (And.intro hz0 (And.intro hz1 hz2)));have HO:=FH (show ∀u∈[Value.bool leaf,.slice none 0 0,.slice none 0 0,.slice none 0 0],u.oneCell'=true by intro u hu;simp at hu;rcases hu with rfl|rfl<;>rfl);clear hs hslot hnew hn1 hb hi hz0 hz1 hz2;dsimp only [List.length_nil]at *;go_enter Tryz.func107,Tryz.ntmps107;go_upto_region 8 with (at_builtin;refine az _ rfl _ _ 116 rfl tN i0 _ 4 80 Tryz.underlying116 HI.out.1 HI.out.2.1 HI.out.2.2.1 HI.out.2.2.2 rfl _ _ _ rfl HN.out _ 1 _ rfl HB.out HO.out (by unfold maxLen;omega) (by omega) ?_;intro v2 w2 h2 h2o;obtain⟨g2,c2,rfl,_,_⟩:=(h2.own 0 rfl).form (by omega);clear t0 t1 t2 t3 t4 tf;obtain⟨t0,t1,t2,t3,t4,tf⟩:=pC (h2.blk 1 rfl);have H2:=FH h2;clear h2)
  have hp:=TreeS.push leaf (H2.out.perm ((List.Perm.swap _ _ _).cons _ |>.trans ((List.Perm.swap _ _ _)))).drop;obtain⟨W,hW,hs2⟩:=hp.hide;rw [←hW];clear hW t0 t1 t2 t3 t4 tf hp H2;obtain⟨t0,t1,t2,t3,t4,tf⟩:=hs2.tcells;have wJ:=FH hs2;clear hs2;go_wp2_with (fail);go_ret;rw [Aj.out];exact⟨by simp,_,_,_,by rw [List.map_append];rfl,wJ.out⟩
 ·have HS:=FH hs
  have hslot:TM.slot ⟨ns.map Prod.snd,fr ++ [i],k⟩ leaf=(i,⟨(ns.map Prod.snd).set i (aS leaf),fr,k⟩):=by simp [TM.slot]
  have Aj:=FH hslot;have hi:=hfr i (by simp);rw [FZ]at hi;obtain⟨p,hp⟩:∃p,ns[i]?=some p:=⟨ns[i],FP hi⟩;obtain⟨g,cg,hv,_,_⟩:=hs.nv_some (by omega);cases hv;obtain⟨n0,n1,n2,n3,nf⟩:=hs.node_cells hp;obtain⟨fg,fcc,hv,hfc1,hfc2⟩:=(Sat.own hs 2 rfl).form (by simp);cases hv;have hlast:=(Sat.own hs 2 rfl).cells fr.length (.int .i64 i) (by rw [FT,Gb (by rw [cH jE];omega),cH jE];simp [Proofs.YtdobimafhbfkhaaGreat.ncells]);have HP:=FH hp;have hfree:=hs.set_free (fr':=fr) (fun _ hh=>by
   have:=hh.own_cut (m:=fr.length) (c:=fc) (by simp) (by simp at hfc1;omega) (by omega);have e:((fr ++ [i]).flatMap Proofs.YtdobimafhbfkhaaGreat.ncells).take (fr.length*1)=fr.flatMap Proofs.YtdobimafhbfkhaaGreat.ncells:=by
    rw [FT,F9 (by rw [cH jE];omega),FS (by rw [cH jE];omega)]
   rw [e]at this;exact this)
  have HF:=FH hfree;simp only [FR,Gh]at *;unfold maxLen at hfc2;have hw1:IntKind.i64.wrap ((fr.length:Int)+1-1)=(fr.length:Int):=by rw [show(fr.length:Int)+1-1=fr.length by omega];exact Gr _ (by omega)
  have hib:(i:Int)<(ns.length:Int):=by omega
  clear hs hslot hp hfr hfree;go_enter Tryz.func107,Tryz.ntmps107;go_upto_region 5 with (fail)
  obtain⟨W,hW,hs2⟩:=HF.out.hide;rw [←hW];clear hW t0 t1 t2 t3 t4 tf n0 n1 n2 n3 nf HF hlast;obtain⟨t0,t1,t2,t3,t4,tf⟩:=hs2.tcells;obtain⟨n0,n1,n2,n3,nf⟩:=hs2.node_cells HP.out;have wJ:=FH (hs2.reset HP.out leaf);clear hs2;go_wp2_with (fail);go_ret;rw [Aj.out];exact⟨rfl,_,_,_,by rw [List.map_set];rfl,wJ.out⟩
def TM.give (T:TM)(i:Nat):TM:={ T with nodes:=T.nodes.set i (aS false),free:=T.free ++ [i] }
def NodeM.size (m:NodeM):Nat:=if m.leaf then m.keys.length else m.kids.length
def bu (keys:List Val)(k:Val):Nat:=bg keys k+if dW keys k then 1 else 0
theorem dK {B w:World}{D:PH}{t:Nat}{T:TM}{l:List HP}{i:Nat}{m:NodeM}(hi:T.nodes[i]?=some m)(h:TreeA B D w t T l) :
  Calls Tryz.prog 109 #[.pointer (some ⟨t,0,none⟩),.int .i64 i] w fun e w'=>e = .returned (.int .i64 m.size)∧w=w':=by
 obtain⟨nv,fv,ns,hns,hs⟩:=h;obtain⟨⟨kv,vv,dv⟩,hp⟩:=aK hns hi;have hlt:=(FO.1 hp).1;obtain⟨g,c,rfl,_,hcm⟩:=hs.nv_some (by omega);obtain⟨t0,t1,t2,t3,t4,tf⟩:=hs.tcells;obtain⟨n0,n1,n2,n3,nf⟩:=hs.node_cells hp;obtain⟨ko,kc,hkv⟩:=(hs.focus hp).own_shape;obtain⟨dO,dc,hdv⟩:=(hs.focus hp).drop.drop.own_shape;dsimp only at hkv hdv n0 n1 n2 n3;subst hkv hdv;unfold maxLen at hcm;have hib:(i:Int)<(ns.length:Int):=by omega
 cases hl:m.leaf
 ·have xl:=FH (show m.size=m.kids.length by simp [NodeM.size,hl])
  rw [hl]at n0;clear hs hp hi hns hl;go_enter Tryz.func109,Tryz.ntmps109;go_wp2_with (fail);go_ret;exact⟨by rw [xl.out];rfl,rfl⟩
 ·have xl:=FH (show m.size=m.keys.length by simp [NodeM.size,hl])
  rw [hl]at n0;clear hs hp hi hns hl;go_enter Tryz.func109,Tryz.ntmps109;go_wp2_with (fail);go_ret;exact⟨by rw [xl.out];rfl,rfl⟩
theorem j4 {B w:World}{D:PH}{t:Nat}{T:TM}{l:List HP}{i:Nat}{m:NodeM}(k:Val)(hi:T.nodes[i]?=some m)(hkb:m.keys.length≤1000000)(h:TreeA B D w t T l) :
  Calls Tryz.prog 102 #[.pointer (some ⟨t,0,none⟩),.int .i64 i,k.v] w fun e w'=>e = .returned (.int .i64 (bu m.keys k))∧Kept (fun _=>False) w w':=by
 obtain⟨nv,fv,ns,hns,hs⟩:=h;obtain⟨⟨kv,vv,dv⟩,hp⟩:=aK hns hi;have hlt:=(FO.1 hp).1;obtain⟨g,c,rfl,_,hcm⟩:=hs.nv_some (by omega);unfold maxLen at hcm;have hk0:Kept (fun _=>False) w (w.alloc (.cells #[.bool k.t,.int .i64 k.n,.string k.s] tV)):=(Kept.refl _ _).alloc _;have hs1:=hs.kept hk0;have hb:(w.alloc (.cells #[.bool k.t,.int .i64 k.n,.string k.s] tV)).heap[w.heap.size]?=some (.cells #[.bool k.t,.int .i64 k.n,.string k.s] tV (0,0)):=ak w _;have hib:(i:Int)<(ns.length:Int):=by omega
 have HB:=FH hb;have yL:=FH hk0;have wG:=FH hs1;have HP:=FH hp;have hbl:=(mo (jj m.keys k) 0 m.keys.length (Gp _)).2;have hbl2:bg m.keys k≤1000000:=Gq hbl hkb;clear hs hk0 hs1 hb hp hi hns hbl;dsimp only [Val.v];go_enter Tryz.func102,Tryz.ntmps102;go_upto_region 1 with (fail)
 obtain⟨W,hW⟩:∃W,W=w.alloc (.cells #[.bool k.t,.int .i64 k.n,.string k.s] tV):=⟨_,rfl⟩;rw [←hW]at yL HB wG ⊢;generalize w.heap.size=bk at HB ⊢;clear hW;obtain⟨x0,x1,x2,xf⟩:=aQ HB.out;obtain⟨t0,t1,t2,t3,t4,tf⟩:=wG.out.tcells;obtain⟨n0,n1,n2,n3,nf⟩:=wG.out.node_cells HP.out;have hrd:=wG.out.drew.keys_rd HP.out;obtain⟨ko,kc,hkv⟩:=(wG.out.focus HP.out).own_shape;dsimp only at hkv n0 n1 n2 n3 hrd;subst hkv;have wQ:=FH hrd;clear hrd;refine aH [rq 0 9,rq 1 9,rq 2 9,rq 3 9,rq 4 9,rq 5 9,rq 6 9,rq 7 9,rq 8 9,(9,true,0),rq 10 999,rq 11 999,rq 12 999,rq 13 999,rq 14 999] ?_;iterate 9 (refine ae rfl rfl fun K hK=>?_;go_simp;apply hK;clear hK K)
 refine af rfl ?_;refine al rfl fun K hK=>?_;go_simp;refine(fA k wQ.out hkb).mono ?_;rintro e1 w1 ⟨rfl,hk1⟩;have wN:=FH (yL.out.trans (((Kept.refl (fun _=>False) W).drew).trans hk1 (fun _ h=>h.elim)) (fun _ h=>h.elim));clear hk1 x0 x1 x2 xf t0 t1 t2 t3 t4 tf n0 n1 n2 n3 nf;refine hK _ _ ?_;clear hK K;refine wpList_nil ?_;apply And.intro
 ·go_simp
 iterate 5 (refine ae rfl rfl fun K hK=>?_;go_simp;apply hK;clear hK K)
 refine ag ?_;cases hbs:dW m.keys k
 ·have BK:=FH (show bu m.keys k=bg m.keys k by simp [bu,hbs])
  clear hbs;go_wp2_with (fail);go_ret;exact⟨by rw [BK.out];rfl,wN.out⟩
 ·have BK:=FH (show bu m.keys k=bg m.keys k+1 by simp [bu,hbs])
  have hw:IntKind.i64.wrap ((bg m.keys k:Int)+1)=(bg m.keys k:Int)+1:=Gr _ (by omega);clear hbs;go_wp2_with (fail);go_ret;exact⟨by rw [BK.out];rfl,wN.out⟩
def NodeM.hi (m:NodeM):NodeM:=if m.leaf then ⟨true,m.keys.drop (m.keys.length / 2),m.vals.drop (m.keys.length / 2),[]⟩else ⟨false,m.keys.drop (m.keys.length / 2+1),[],m.kids.drop (m.keys.length / 2+1)⟩
def NodeM.lo (m:NodeM):NodeM:=if m.leaf then ⟨true,m.keys.take (m.keys.length / 2),m.vals.take (m.keys.length / 2),m.kids⟩else ⟨false,m.keys.take (m.keys.length / 2),m.vals,m.kids.take (m.keys.length / 2+1)⟩
theorem ie {T:TM}{leaf:Bool}{i:Nat}{m:NodeM}(hi:T.nodes[i]?=some m)(hfr:∀x,T.free.getLast?=some x→x<T.nodes.length∧x≠i) :
  (T.slot leaf).1≠i∧(T.slot leaf).2.nodes[i]?=some m∧(T.slot leaf).2.nodes[(T.slot leaf).1]?=some (aS leaf)∧(T.slot leaf).2.nodes.length≤T.nodes.length+1:=by
 have hlt:=(FO.1 hi).1;unfold TM.slot;split
 ·rename_i x hx
  obtain⟨h1,h2⟩:=hfr x hx;exact⟨h2,by simp only [F8 h2,hi],by simp [h1],by simp⟩
 ·exact⟨by dsimp only;omega,by simp only [Gm hlt,hi],by simp,by simp⟩
theorem bM {α:Type}{l:List α}{i j:Nat}{x y:α}(h:i≠j)(hj:l[j]?=some y):(l.set i x)[j]?=some y:=by rw [F8 h,hj]
theorem bW {α:Type}{l:List α}{i:Nat}{x y:α}(hj:l[i]?=some y):(l.set i x)[i]?=some x:=FX (FO.1 hj).1
theorem bD {w:World}{g n c i x:Nat}{ds:List Nat}(h:Rd w 1 (.slice (some ⟨g,0,none⟩) n c) ds.length (ds.flatMap Proofs.YtdobimafhbfkhaaGreat.ncells))(hi:ds[i]?=some x):w.cell? ⟨g,i,none⟩=some (.int .i64 x):=by
 have hlt:=(FO.1 hi).1;rcases h.2.2 with ⟨_,_,hv,_,_,_,hcell⟩
 cases hv;rcases hcell with h0|⟨_,_,hg,hc⟩
 ·omega
 ·cases hg
  have:=hc _ _ (bB jE ds i x hi 0 _ rfl)
  simpa using this
theorem iV {w:World}{g o N cap h:Nat}{vals:List VT}{x:VT}(hrd:Rd w 1 (.slice (some ⟨g,o,none⟩) N cap) N (vals.flatMap dS))(hx:vals[h]?=some x) :
  w.cell? ⟨g,o+h,none⟩=some (.slice x.ro x.rn x.rc):=by
 have hlt:=(FO.1 hx).1;rcases hrd.2.2 with ⟨_,_,hv,_,_,_,hcell⟩
 cases hv;rcases hcell with h0|⟨_,_,hg,hc⟩
 ·have:=hrd.1
  rw [cH kV]at this;omega
 cases hg;have:=hc _ _ (bB kV vals h _ hx 0 _ rfl)
 simpa using this
theorem aF {w:World}{e:TypeId}{z n:Nat}{v:Value}{xs:List Value}(h:Own w e z v n xs)(hn:0<n):∃g c,v = .slice (some ⟨g,0,none⟩) n c∧n≤c∧c≤9223372036854775807:=by
 obtain⟨g,c,h1,h2,h3⟩:=h.form hn;unfold maxLen at h3;exact⟨g,c,h1,h2,by omega⟩
def TM.spl (T:TM)(nw i kid c:Nat)(mi mk:NodeM)(sep:Val):TM :=
 { T with nodes:=((T.nodes.set nw mk.hi).set kid mk.lo).set i { mi with keys:=aT mi.keys c sep,kids:=aT mi.kids (c+1) nw } }
theorem rI {B w:World}{D:PH}{t:Nat}{T:TM}{l:List HP}{i c kid:Nat}{mi mk:NodeM}{nw:Nat}{T1:TM}{sep:Val}(hsl:T.slot mk.leaf=(nw,T1))(hsep:mk.keys[mk.keys.length / 2]?=some sep)(hi:T.nodes[i]?=some mi)(hc:mi.kids[c]?=some kid)(hk:T.nodes[kid]?=some mk)(hik:i≠kid)(hleaf:mk.leaf=true)
  (hfr:∀x,T.free.getLast?=some x→x<T.nodes.length∧x≠i∧x≠kid) (hbig:T.nodes.length≤1000000) (hfb:T.free.length≤1000000)
  (hkl:0<mk.keys.length) (hkb:mk.keys.length≤1000) (hvl:mk.vals.length=mk.keys.length) (hil:c≤mi.keys.length) (hil2:mi.kids.length=mi.keys.length+1) (hib:mi.keys.length≤1000) (h:TreeA B D w t T l) :
  Calls Tryz.prog 110 #[.pointer (some ⟨t,0,none⟩),.int .i64 i,.int .i64 c] w fun e w'=>e = .returned (.tuple #[]) ∧
   TreeA B D w' t (T1.spl nw i kid c mi mk sep) l:=by
 have hA:=h;have hkc0:c+1≤mi.kids.length:=by omega
 have hkc1':mi.kids.length≤1001:=by omega
 clear hil2;obtain⟨nv,fv,ns,hns,hs⟩:=h;obtain⟨⟨ikv,ivv,idv⟩,hpi⟩:=aK hns hi;obtain⟨⟨kkv,kvv,kdv⟩,hpk⟩:=aK hns hk;have hlti:=(FO.1 hpi).1;have hltk:=(FO.1 hpk).1;have hlen:T.nodes.length=ns.length:=by rw [←hns,FZ]
 obtain⟨g,cn,rfl,_,hcm⟩:=hs.nv_some (by omega);obtain⟨t0,t1,t2,t3,t4,tf⟩:=hs.tcells;obtain⟨n0,n1,n2,n3,nf⟩:=hs.node_cells hpi;obtain⟨k0,k1,k2,k3,kf⟩:=hs.node_cells hpk;have hkr:=hs.kids_rd hpi;have hclt:=(FO.1 hc).1;obtain⟨dg,dc,hdv,_,hdcm⟩:=aF (Sat.own (hs.focus hpi) 2 rfl) (by show 0<mi.kids.length;omega);dsimp only at hdv n0 n1 n2 n3 k0 k1 k2 k3 hkr;subst hdv;have hcell:=bD hkr hc;rw [hleaf]at k0;unfold maxLen at hcm;have hib1:(i:Int)<(ns.length:Int):=by omega
 have hkb1:(kid:Int)<(ns.length:Int):=by omega
 have hcb1:(c:Int)<(mi.kids.length:Int):=by omega
 have Aj:=FH hsl;have hso:=lu true (fun x hx=>(hfr x hx).1) hbig hfb hA;rw [←hleaf,hsl]at hso;rw [hleaf]at hso;have zG:=FH hso;have BO:=FH hsep;have HI:=FH hi;have HK:=FH hk;have HC:=FH hc;have ya:=FH hfr;have xi:=FH hleaf;have Bq:=FH hvl;clear hs hA hkr hi hk hc hpi hpk hns hfr hleaf hlen hvl hso hsl hsep;go_enter Tryz.func110,Tryz.ntmps110;go_upto_region 2 with ((go_at_call 107;refine zG.out.mono ?_;rintro e1 w1 ⟨rfl,hs1⟩;have Ak:=FH hs1;clear hs1))
 obtain⟨nv1,fv1,ns1,hns1,hs1⟩:=Ak.out;have fi:=ie (leaf:=mk.leaf) HI.out (fun x hx=>⟨(ya.out x hx).1,(ya.out x hx).2.1⟩);have fk:=ie (leaf:=mk.leaf) HK.out (fun x hx=>⟨(ya.out x hx).1,(ya.out x hx).2.2⟩);rw [Aj.out]at fi fk;dsimp only at fi fk;clear Ak zG HI HK ya t0 t1 t2 t3 t4 tf n0 n1 n2 n3 nf k0 k1 k2 k3 kf hcell hib1 hkb1;obtain⟨⟨ikv,ivv,idv⟩,hpi⟩:=aK hns1 fi.2.1;obtain⟨⟨kkv,kvv,kdv⟩,hpk⟩:=aK hns1 fk.2.1;obtain⟨⟨okv,ovv,odv⟩,hpo⟩:=aK hns1 fi.2.2.1;have hlti:=(FO.1 hpi).1;have hltk:=(FO.1 hpk).1;have hlto:=(FO.1 hpo).1;have hlen:T1.nodes.length=ns1.length:=by rw [←hns1,FZ]
 have hlb:=fi.2.2.2;have hoi:=fi.1;have hok:=fk.1;obtain⟨g,cn,rfl,_,hcm⟩:=hs1.nv_some (by omega);unfold maxLen at hcm;clear fi fk hlen;generalize hN:ns1.length=N at *;have hib1:(i:Int)<(N:Int):=by omega
 have hkb1:(kid:Int)<(N:Int):=by omega
 have hob1:(nw:Int)<(N:Int):=by omega
 obtain⟨kg,kc,hkv,hkc1,hkc2⟩:=aF (Sat.own (hs1.focus hpk) 0 rfl) (by show 0<mk.keys.length;omega);obtain⟨vg,vc,hvv,hvc1,hvc2⟩:=aF (Sat.own (hs1.focus hpk) 1 rfl) (by show 0<mk.vals.length;rw [Bq.out];omega);dsimp only at hkv hvv;subst hkv hvv;have hsep:=BO.out;obtain⟨L,hL⟩:∃L,mk.keys.length=L:=⟨_,rfl⟩;have HL:=FH hL;have hvl:=Bq.out;rw [hL]at hkc1 hsep hkb hkl hvl hpk;rw [hvl]at hvc1 hpk;obtain⟨M,hM⟩:∃M,L / 2=M:=⟨_,rfl⟩;have hq:(L:Int) / 2=(M:Int):=by omega
 rw [hM]at hsep;have hml:M<L:=by omega
 have hrk0:=hs1.keys_rd hpk;dsimp only at hrk0;rw [hL]at hrk0;obtain⟨s0,s1,s2⟩:=aE hrk0 hsep;clear hrk0;simp only [Nat.zero_add]at s0 s1 s2;obtain⟨t0,t1,t2,t3,t4,tf⟩:=hs1.tcells;obtain⟨k0,k1,k2,k3,kf⟩:=hs1.node_cells hpk;dsimp only at k0 k1 k2 k3;rw [xi.out]at k0;have hmk:(M:Int)<(L:Int):=by omega
 have wG:=FH hs1;have A4:=FH hpi;have Bf:=FH hpk;have xZ:=FH hpo;have HM:=FH hM;have hkcM:¬(kc=M):=by omega
 have hvcM:¬(vc=M):=by omega
 have hML:M≤L:=by omega
 have hMLi:(M:Int)≤(L:Int):=by omega
 have hMk:(M:Int)≤(kc:Int):=by omega
 have hMv:(M:Int)≤(vc:Int):=by omega
 obtain⟨yk,hyk⟩:∃yk,mk.keys.drop M=yk:=⟨_,rfl⟩;obtain⟨yv,hyv⟩:∃yv,mk.vals.drop M=yv:=⟨_,rfl⟩;have A5:=FH hyk;have zT:=FH hyv;have hykl:yk.length≤1000:=by rw [←hyk,Ga,hL];omega
 have hyvl:yv.length≤1000:=by rw [←hyv,Ga,hvl];omega
 have CD:=FH (show ∀u∈yk.flatMap Val.cells,u.oneCell'=true from fun u hu=>by obtain⟨x,_,hx⟩:=Gi.1 hu;exact Val.one x u hx);have CE:=FH (show ∀u∈yv.flatMap dS,u.oneCell'=true from fun u hu=>by obtain⟨x,_,hx⟩:=Gi.1 hu;exact vone x u hx);clear hs1 hpi hpk hpo hM hsep hL hvl hyk hyv;refine aH [rq 0 999,rq 1 999,rq 2 999,rq 3 999,rq 4 999,rq 5 999,rq 6 999,rq 7 999,rq 8 999,rq 9 999,rq 10 999,rq 11 999,rq 12 999,rq 13 999] ?_;iterate 14 (refine ae rfl rfl fun K hK=>?_;go_simp;apply hK;clear hK K)
 refine ag ?_;go_upto_region 5 with (fail)
 have hs2:=(wG.out.alloc #[.bool sep.t,.int .i64 sep.n,.string sep.s] tV).drew;obtain⟨W2,hW2,hs2⟩:=hs2.hide;rw [←hW2];generalize w1.heap.size=bs at hs2 ⊢;clear hW2 wG t0 t1 t2 t3 t4 tf k0 k1 k2 k3 kf s0 s1 s2;obtain⟨k0,k1,k2,k3,kf⟩:=hs2.node_cells Bf.out;have hrk:=hs2.keys_rd Bf.out;dsimp only at k0 k1 k2 k3 hrk;rw [xi.out]at k0;have hrk2:=lG (m:=M) (off:=M*3) Val.len hrk (by omega) (fun _=>rfl);rw [A5.out]at hrk2;have BP:=FH hrk2;have wJ:=FH hs2;clear hs2 hrk hrk2;go_upto_region 7 with ((go_at_call 124;refine(nN BP.out CD.out (by omega) wJ.out).mono ?_;rintro e3 w3 ⟨kv3,rfl,hs3⟩;obtain⟨ko3,kc3,rfl⟩:=hs3.own_shape;obtain⟨o0,o1,o2,o3,of⟩:=TreeS.node_cells (Sat.drop hs3) xZ.out;have wI:=FH hs3;clear hs3))
 have hs4:=TreeS.put_keys xZ.out wI.out;obtain⟨W4,hW4,hs4⟩:=hs4.hide;rw [←hW4];have hpo4:=bW (x:=((⟨.slice ko3 yk.length kc3,ovv,odv⟩,{ aS mk.leaf with keys:=yk }):NP)) xZ.out;have hpk4:=bM (x:=((⟨.slice ko3 yk.length kc3,ovv,odv⟩,{ aS mk.leaf with keys:=yk }):NP)) hok Bf.out;have hpi4:=bM (x:=((⟨.slice ko3 yk.length kc3,ovv,odv⟩,{ aS mk.leaf with keys:=yk }):NP)) hoi A4.out;have hmap4:(ns1.set nw ((⟨.slice ko3 yk.length kc3,ovv,odv⟩,{ aS mk.leaf with keys:=yk }):NP)).map Prod.snd=T1.nodes.set nw { aS mk.leaf with keys:=yk }:=by rw [List.map_set,hns1]
 generalize ns1.set nw ((⟨.slice ko3 yk.length kc3,ovv,odv⟩,{ aS mk.leaf with keys:=yk }):NP)=ns4 at hs4 hpo4 hpk4 hpi4 hmap4;clear hW4 wI wJ xZ Bf A4 k0 k1 k2 k3 kf o0 o1 o2 o3 of BP CD;obtain⟨k0,k1,k2,k3,kf⟩:=hs4.node_cells hpk4;have hrv:=hs4.vals_rd hpk4;dsimp only at k0 k1 k2 k3 hrv;have hrv2:=lG (m:=M) (off:=M) kV hrv (by omega) (fun _=>by omega);rw [zT.out]at hrv2;have Aw:=FH hrv2;have wO:=FH hs4;have zl:=FH hpo4;have AI:=FH hpk4;have AJ:=FH hpi4;have zH:=FH hmap4;clear hs4 hrv hrv2 hpo4 hpk4 hpi4 hmap4;go_upto_region 8 with ((go_at_call 125;refine(uw Aw.out CE.out (by omega) wO.out).mono ?_;rintro e5 w5 ⟨vv5,rfl,hs5⟩;obtain⟨vo5,vc5,rfl⟩:=hs5.own_shape;obtain⟨o0,o1,o2,o3,of⟩:=TreeS.node_cells (Sat.drop hs5) zl.out;have wT:=FH hs5;clear hs5))
 have hs6:=TreeS.put_vals zl.out wT.out;obtain⟨W6,hW6,hs6⟩:=hs6.hide;rw [←hW6];have hpo6:=bW (x:=((⟨.slice ko3 yk.length kc3,.slice vo5 yv.length vc5,odv⟩,{ aS mk.leaf with keys:=yk,vals:=yv }):NP)) zl.out;have hpk6:=bM (x:=((⟨.slice ko3 yk.length kc3,.slice vo5 yv.length vc5,odv⟩,{ aS mk.leaf with keys:=yk,vals:=yv }):NP)) hok AI.out;have hpi6:=bM (x:=((⟨.slice ko3 yk.length kc3,.slice vo5 yv.length vc5,odv⟩,{ aS mk.leaf with keys:=yk,vals:=yv }):NP)) hoi AJ.out;have hmap6:(ns4.set nw ((⟨.slice ko3 yk.length kc3,.slice vo5 yv.length vc5,odv⟩,{ aS mk.leaf with keys:=yk,vals:=yv }):NP)).map Prod.snd=T1.nodes.set nw { aS mk.leaf with keys:=yk,vals:=yv }:=by rw [List.map_set,zH.out,List.set_set]
 generalize ns4.set nw ((⟨.slice ko3 yk.length kc3,.slice vo5 yv.length vc5,odv⟩,{ aS mk.leaf with keys:=yk,vals:=yv }):NP)=ns6 at hs6 hpo6 hpk6 hpi6 hmap6;clear hW6 wT wO zl AI AJ zH k0 k1 k2 k3 kf o0 o1 o2 o3 of Aw CE;obtain⟨k0,k1,k2,k3,kf⟩:=hs6.node_cells hpk6;dsimp only at k0 k1 k2 k3;have hs7:=hs6.cut_vals (m:=M) hpk6 rfl (by show M≤mk.vals.length;rw [Bq.out,HL.out];exact hML);have wP:=FH hs7;have BQ:=FH hpo6;have AK:=FH hpk6;have AL:=FH hpi6;have yt:=FH hmap6;clear hs6 hs7 hpo6 hpk6 hpi6 hmap6;have hMM:(M:Int)≤(M:Int):=Int.le_refl _;go_upto_region 12 with (fail)
 obtain⟨W7,hW7,hs7⟩:=wP.out.hide;rw [←hW7];have hpk7:=bW (x:=((⟨.slice (some ⟨kg,0,none⟩) L kc,.slice (some ⟨vg,0,none⟩) M M,kdv⟩,{ mk with vals:=mk.vals.take M }):NP)) AK.out;have hpi7:=bM (x:=((⟨.slice (some ⟨kg,0,none⟩) L kc,.slice (some ⟨vg,0,none⟩) M M,kdv⟩,{ mk with vals:=mk.vals.take M }):NP)) (Ne.symm hik) AL.out;have hmap7:(ns6.set kid ((⟨.slice (some ⟨kg,0,none⟩) L kc,.slice (some ⟨vg,0,none⟩) M M,kdv⟩,{ mk with vals:=mk.vals.take M }):NP)).map Prod.snd=(T1.nodes.set nw { aS mk.leaf with keys:=yk,vals:=yv }).set kid { mk with vals:=mk.vals.take M }:=by rw [List.map_set,yt.out]
 generalize ns6.set kid ((⟨.slice (some ⟨kg,0,none⟩) L kc,.slice (some ⟨vg,0,none⟩) M M,kdv⟩,{ mk with vals:=mk.vals.take M }):NP)=ns7 at hs7 hpk7 hpi7 hmap7;clear hW7 wP BQ AK AL yt k0 k1 k2 k3 kf;obtain⟨k0,k1,k2,k3,kf⟩:=hs7.node_cells hpk7;dsimp only at k0 k1 k2 k3;have hs8:=hs7.cut_keys (m:=M) hpk7 rfl (by show M≤mk.keys.length;rw [HL.out];exact hML);have xQ:=FH hs8;have BR:=FH hpk7;have AM:=FH hpi7;have zI:=FH hmap7;clear hs7 hs8 hpk7 hpi7 hmap7;go_upto_region 13 with (fail)
 obtain⟨W8,hW8,hs8⟩:=xQ.out.hide;rw [←hW8];have hpi8:=bM (x:=((⟨.slice (some ⟨kg,0,none⟩) M M,.slice (some ⟨vg,0,none⟩) M M,kdv⟩,{ mk with vals:=mk.vals.take M,keys:=mk.keys.take M }):NP)) (Ne.symm hik) AM.out;have hmap8:(ns7.set kid ((⟨.slice (some ⟨kg,0,none⟩) M M,.slice (some ⟨vg,0,none⟩) M M,kdv⟩,{ mk with vals:=mk.vals.take M,keys:=mk.keys.take M }):NP)).map Prod.snd=(T1.nodes.set nw { aS mk.leaf with keys:=yk,vals:=yv }).set kid { mk with vals:=mk.vals.take M,keys:=mk.keys.take M }:=by rw [List.map_set,zI.out,List.set_set]
 generalize ns7.set kid ((⟨.slice (some ⟨kg,0,none⟩) M M,.slice (some ⟨vg,0,none⟩) M M,kdv⟩,{ mk with vals:=mk.vals.take M,keys:=mk.keys.take M }):NP)=ns8 at hs8 hpi8 hmap8;clear hW8 xQ BR AM zI k0 k1 k2 k3 kf;obtain⟨t0,t1,t2,t3,t4,tf⟩:=hs8.tcells;obtain⟨n0,n1,n2,n3,nf⟩:=hs8.node_cells hpi8;dsimp only at n0 n1 n2 n3;obtain⟨iko,ikc,hikv⟩:=(hs8.focus hpi8).own_shape;dsimp only at hikv;subst hikv;obtain⟨s0,s1,s2,sf⟩:=aQ (Sat.blk hs8 4 rfl);have xQ:=FH hs8;have yB:=FH hpi8;have zJ:=FH hmap8;clear hs8 hpi8 hmap8;go_upto_region 14 with (fail)
 refine aH [rq 0 11,rq 1 8,rq 2 8,rq 3 8,rq 4 8,rq 5 8,rq 6 7,(7,true,0),(8,true,0),rq 9 11,rq 10 11,(11,true,0)] ?_;iterate 7 (refine ae rfl rfl fun K hK=>?_;go_simp;apply hK;clear hK K)
 refine af rfl ?_;refine wpList_plain rfl fun K hK=>?_;go_simp;refine hK _ _ ?_;clear hK K;refine wpList_nil ?_;have hs9:=(xQ.out.alloc #[.bool sep.t,.int .i64 sep.n,.string sep.s] tV).drew;obtain⟨W9,hW9,hs9⟩:=hs9.hide;rw [←hW9];generalize W8.heap.size=bx at hs9 ⊢;clear hW9 xQ t0 t1 t2 t3 t4 tf n0 n1 n2 n3 nf s0 s1 s2 sf;obtain⟨n0,n1,n2,n3,nf⟩:=hs9.node_cells yB.out;dsimp only at n0 n1 n2 n3;obtain⟨s0,s1,s2,sf⟩:=aQ (Sat.blk hs9 5 rfl);have yi:=FH (hs9.for_keys yB.out);clear hs9;apply And.intro
 ·go_simp
 refine af rfl ?_;refine al rfl fun K hK=>?_;go_simp;refine(ic (i:=c) hil (by rfl) (Val.one sep) bx (by omega) yi.out).mono ?_;rintro e10 w10 ⟨kv10,rfl,hs10⟩;have hs10':=hs10.swap.drop;dsimp only at hs10';rw [dq Val.len,←bQ mi.keys c sep]at hs10';obtain⟨kk,hkk⟩:∃kk,aT mi.keys c sep=kk:=⟨_,rfl⟩;rw [hkk]at hs10';obtain⟨ko10,kc10,rfl⟩:=hs10'.own_shape;clear n0 n1 n2 n3 nf s0 s1 s2 sf yi hs10;obtain⟨n0,n1,n2,n3,nf⟩:=cA (hs10'.own 4 rfl) yB.out;have yG:=FH hkk;have yu:=FH hs10';dsimp only at n0 n1 n2 n3;clear hs10' hkk;refine hK _ _ ?_;clear hK K;refine wpList_nil ?_;apply And.intro
 ·go_simp
 iterate 2 (refine ae rfl rfl fun K hK=>?_;go_simp;apply hK;clear hK K)
 refine af rfl ?_;refine wpList_plain rfl fun K hK=>?_;go_simp;refine hK _ _ ?_;clear hK K;refine wpList_nil ?_;apply And.intro
 ·go_simp
 refine ag ?_;go_upto_region 15 with (fail)
 have hq11:=TreeS.set_keys yB.out yu.out;obtain⟨W11,hW11,hs11⟩:=hq11.hide;rw [←hW11];clear hq11;have hpi11:=bW (x:=((⟨.slice ko10 kk.length kc10,ivv,idv⟩,{ mi with keys:=kk }):NP)) yB.out;have hmap11:(ns8.set i ((⟨.slice ko10 kk.length kc10,ivv,idv⟩,{ mi with keys:=kk }):NP)).map Prod.snd=((T1.nodes.set nw { aS mk.leaf with keys:=yk,vals:=yv }).set kid { mk with vals:=mk.vals.take M,keys:=mk.keys.take M }).set i { mi with keys:=kk }:=by rw [List.map_set,zJ.out]
 dsimp only at hs11;generalize ns8.set i ((⟨.slice ko10 kk.length kc10,ivv,idv⟩,{ mi with keys:=kk }):NP)=ns11 at hs11 hpi11 hmap11;clear hW11 yu yB zJ n0 n1 n2 n3 nf;obtain⟨n0,n1,n2,n3,nf⟩:=hs11.node_cells hpi11;dsimp only at n0 n1 n2 n3;obtain⟨ido,idc,hidv⟩:=(hs11.focus hpi11).drop.drop.own_shape;dsimp only at hidv;subst hidv;have hs12:=hs11.alloc #[.int .i64 nw] tI;have yQ:=FH (hs12.for_kids hpi11);have zK:=FH hpi11;have zU:=FH hmap11;have hwc:IntKind.i64.wrap ((c:Int)+1)=(c:Int)+1:=Gr _ (by omega);have hcn:((c:Int)+1)=((c+1:Nat):Int):=rfl;have Au:=FH hcn;have zi:=FH (show ∀u∈[Value.int .i64 nw],u.oneCell'=true by intro u hu;simp at hu;subst hu;rfl);clear hs11 hs12 hpi11 hmap11 hcn;go_wp2_with ((go_at_call 127;rw [Au.out];refine(jC (i:=c+1) (xc:=[.int .i64 nw]) (by show c+1≤mi.kids.length;omega) (by rfl) zi.out _ (by show(mi.kids.length+1)*8≤_;omega) yQ.out).mono ?_;rintro e13 w13 ⟨dv13,rfl,hs13⟩;have hs13':=hs13.swap.drop;dsimp only at hs13';obtain⟨do13,dc13,rfl⟩:=hs13'.own_shape;clear n0 n1 n2 n3 nf;obtain⟨n0,n1,n2,n3,nf⟩:=cA (hs13'.own 4 rfl) zK.out;dsimp only at n0 n1 n2 n3;have Al:=FH hs13';clear hs13 hs13'));go_end0;have e:=dq jE mi.kids (c+1) nw;have h14:=Al.out;have h14':Sat B D w13 (be (.slice do13 (mi.kids.length+1) dc13) (aT mi.kids (c+1) nw)::dm (.slice ko10 kk.length kc10) kk::dl ivv mi.vals::blk t (aM (.slice (some ⟨g,0,none⟩) N cn) fv1 T1.k) tT::aD tN 4 (.slice (some ⟨g,0,none⟩) N cn) ns11.length (ns11.flatMap aG)::be fv1 T1.free::aY ((ns11.map bV).eraseIdx i)::blk bs #[.bool sep.t,.int .i64 sep.n,.string sep.s] tV::l):=by
  unfold be;rw [bQ,←e];exact h14
 have hs15:=TreeS.set_kids zK.out h14';refine⟨rfl,_,_,_,?_,hs15.drop⟩;have ea:({ aS mk.leaf with keys:=yk,vals:=yv }:NodeM)=mk.hi:=by
  unfold NodeM.hi aS;rw [xi.out,←A5.out,←zT.out,HL.out,HM.out]
  rfl
 have eb:({ mk with vals:=mk.vals.take M,keys:=mk.keys.take M }:NodeM)=mk.lo:=by
  unfold NodeM.lo;rw [xi.out,HL.out,HM.out]
  rfl
 rw [List.map_set,zU.out,List.set_set,ea,eb,←yG.out]
 rfl
end Go.Proofs.YtdobimafhbfkhaaGreat
