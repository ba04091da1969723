/- What is taken back, as data, and what follows. -/
import Derived.Test.YtdobimafhbfkhaaGreatOY26
import Derived.Test.YtdobimafhbfkhaaGreatOY8
set_option maxHeartbeats 64000000
namespace Go.Proofs.YtdobimafhbfkhaaGreat
set_option linter.unusedSimpArgs false
def ltR (k:Val)(q:List Val):Bool:=decide (ai (au q) k<0)
def gtR (k:Val)(q:List Val):Bool:=decide (0<ai (au q) k)
def o8 (r:List Val):Val×VT:=(au r,RowT.none)
theorem iW (m:aq)(r:List Val):cw m r=m.filter (ltR (au r))++r::m.filter (gtR (au r)):=rfl
theorem kI {x:List Val}{m:aq}(h:bh (dV (x::m))):(∀y∈m,ai (au x) (au y)<0)∧bh (dV m):=by
 have h':(o8 x::dV m).Pairwise (fun a b=>ai a.1 b.1<0):=h;rw [List.pairwise_cons]at h';exact⟨fun y hy=>h'.1 (o8 y) (List.mem_map_of_mem hy),h'.2⟩
theorem above {x:List Val}{m:aq}{k:Val}(h:∀y∈m,ai (au x) (au y)<0)(hx:ai k (au x)≤0):m.filter (ltR k) = []∧m.filter (gtR k)=m:=by
 have hk:∀y∈m,ai k (au y)<0:=fun y hy=>jN hx (h y hy);refine⟨List.filter_eq_nil_iff.2 fun y hy=>?_,List.filter_eq_self.2 fun y hy=>?_⟩
 ·have:=hk y hy
  have e:=cW k (au y);unfold ltR;rw [decide_eq_true_eq];omega
 ·have:=hk y hy
  have e:=cW k (au y);unfold gtR;rw [decide_eq_true_eq];omega
theorem m8 {k:Val}:∀ {m:aq},bh (dV m)→(∀q∈m,ai (au q) k≠0)→m.filter (ltR k)++m.filter (gtR k)=m
 | [],_,_=>rfl
 | x::m,hs,hn=>by
  obtain⟨h1,h2⟩:=kI hs;have hx:=hn x (Gc ..);by_cases hlt:ai (au x) k<0
  ·have e1:ltR k x=true:=F5 hlt
   have e2:gtR k x=false:=FY (by omega);rw [List.filter_cons,List.filter_cons,e1,e2];simp only [if_true,Bool.false_eq_true,if_false,List.cons_append];rw [m8 h2 (fun q hq=>hn q (F4 _ hq))]
  ·have e1:ltR k x=false:=FY hlt
   have e2:gtR k x=true:=F5 (by omega);obtain⟨g1,g2⟩:=above (k:=k) h1 (by have:=cW (au x) k;omega);rw [List.filter_cons,List.filter_cons,e1,e2,g1,g2]
   rfl
theorem jA {k:Val}{q:List Val}:∀ {m:aq},bh (dV m)→q∈m→ai (au q) k=0→m.filter (ltR k)++q::m.filter (gtR k)=m
 | x::m,hs,hq,h0=>by
  obtain⟨h1,h2⟩:=kI hs;rcases Gl.1 hq with rfl|hq
  ·have e1:ltR k q=false:=FY (by omega)
   have e2:gtR k q=false:=FY (by omega);obtain⟨g1,g2⟩:=above (k:=k) h1 (by have:=cW (au q) k;omega);rw [List.filter_cons,List.filter_cons,e1,e2,g1,g2]
   rfl
  ·have hlt:ai (au x) k<0:=jI (h1 q hq) (by omega)
   have e1:ltR k x=true:=F5 hlt;have e2:gtR k x=false:=FY (by omega);rw [List.filter_cons,List.filter_cons,e1,e2];simp only [if_true,Bool.false_eq_true,if_false,List.cons_append];rw [jA h2 hq h0]
theorem od (k:Val)(y:List Val):(ltR k y&&gtR k y)=false:=by
 unfold ltR gtR;rw [Bool.and_eq_false_iff,decide_eq_false_iff_not,decide_eq_false_iff_not];omega
theorem sF (m:aq):m.filter (fun _=>false) = []:=List.filter_eq_nil_iff.2 (fun _ _=>by simp)
theorem filt_lt (m:aq)(r:List Val):(cw m r).filter (ltR (au r))=m.filter (ltR (au r)):=by
 have e1:ltR (au r) r=false:=FY (by rw [dd];omega);rw [iW,List.filter_append,List.filter_cons,e1,List.filter_filter,List.filter_filter];simp only [Bool.false_eq_true,if_false,od,Bool.and_self,sF,List.append_nil]
theorem filt_gt (m:aq)(r:List Val):(cw m r).filter (gtR (au r))=m.filter (gtR (au r)):=by
 have e1:gtR (au r) r=false:=FY (by rw [dd];omega);rw [iW,List.filter_append,List.filter_cons,e1,List.filter_filter,List.filter_filter];simp only [Bool.false_eq_true,if_false,Bool.and_comm (gtR _ _),od,Bool.and_self,sF,List.nil_append]
theorem put_put {c:List Bool}{m:aq}(h:TabI c m){r q:List Val}(hq:q∈m)(hk:au q=au r):cw (cw m r) q=m:=by
 rw [iW (cw m r) q,hk,filt_lt,filt_gt];exact jA h.sorted hq (by rw [hk];exact dd _)
theorem del_put {c:List Bool}{m:aq}(h:TabI c m){r:List Val}(hr:aX c r=true)(hno:aP m (au r)=none):cR (cw m r) (au r)=m:=by
 have hk:am (au r)=true:=by obtain⟨k,_,e,hk,_⟩:=cO hr;rw [e];exact hk
 have hne:∀q∈m,ai (au q) (au r)≠0:=fun q hq h0=>by
  have e:=jm (h.keys q hq) hk h0;have:=eD.2 ⟨q,hq,e⟩;rw [hno]at this;cases this
 unfold cR;rw [iW,List.filter_append,List.filter_cons];have e1:(!decide (ai (au r) (au r)=0))=false:=by rw [dd];rfl
 rw [e1];simp only [Bool.false_eq_true,if_false];have f1:∀p:List Val→Bool,(m.filter p).filter (fun q=>!decide (ai (au q) (au r)=0))=m.filter p:=fun p=>List.filter_eq_self.2 (fun q hq=>by simpa using hne q (List.mem_filter.1 hq).1);rw [f1,f1];exact m8 h.sorted hne
theorem qC (m:aq)(k:Val):(cR m k).filter (ltR k)=m.filter (ltR k)∧(cR m k).filter (gtR k)=m.filter (gtR k):=by
 unfold cR;rw [List.filter_filter,List.filter_filter];refine⟨List.filter_congr fun q _=>?_,List.filter_congr fun q _=>?_⟩
 ·unfold ltR
  by_cases h:ai (au q) k<0
  ·rw [F5 h,FY (show ¬ai (au q) k=0 by omega)];rfl
  ·rw [FY h];rfl
 ·unfold gtR
  by_cases h:0<ai (au q) k
  ·rw [F5 h,FY (show ¬ai (au q) k=0 by omega)];rfl
  ·rw [FY h];rfl
theorem put_del {c:List Bool}{m:aq}(h:TabI c m){q:List Val}(hq:q∈m):cw (cR m (au q)) q=m:=by
 rw [iW,(qC m (au q)).1,(qC m (au q)).2];exact jA h.sorted hq (dd _)
theorem vU {α:Type}{l:List α}{i:Nat}{a:α}(h:l[i]?=some a)(b:α):(l.set i b).set i a=l:=by
 rw [List.set_set];refine List.ext_getElem? fun j=>?_;by_cases hj:i=j
 ·subst hj
  rw [FX (FO.1 h).1,h]
 ·rw [F8 hj]
theorem oA {c:List Bool}{r:List Val}(h:aX c r=true):r.isEmpty=false:=by
 obtain⟨k,h0,_⟩:=cO h;cases r with
 | nil=>cases h0
 | cons a r=>rfl
theorem oJ {T:List aq}{i:Nat}{m m':aq}(hm:T[i]?=some m){k:Val}{q:List Val}(h:(if q.isEmpty then cR m' k else cw m' q)=m):eU (T.set i m') ⟨(i:Int),k,q⟩=T:=by
 have hlt:=(FO.1 hm).1;unfold eU;simp only [F6];rw [FW,FX hlt,Option.getD_some,h];exact vU hm m'
theorem mL {T:List aq}{i:Nat}{c:List Bool}{m:aq}{r:List Val}(hm:T[i]?=some m)(hI:TabI c m)(hr:aX c r=true):eU (T.set i (cw m r)) ⟨(i:Int),au r,(aP m (au r)).getD []⟩=T:=by
 refine oJ hm ?_;cases hf:aP m (au r)with
 | none=>exact del_put hI hr hf
 | some q =>
  obtain⟨hq,hk⟩:=cV hf;rw [Option.getD_some,oA (hI.fits q hq)];exact put_put hI hq hk
theorem vF {T:List aq}{i:Nat}{c:List Bool}{m:aq}{k:Val}(hm:T[i]?=some m)(hI:TabI c m)(hf:(aP m k).isSome=true):eU (T.set i (cR m k)) ⟨(i:Int),k,(aP m k).getD []⟩=T:=by
 refine oJ hm ?_;cases hq:aP m k with
 | none=>rw [hq]at hf;cases hf
 | some q =>
  obtain⟨h1,h2⟩:=cV hq;rw [Option.getD_some,oA (hI.fits q h1),←h2];exact put_del hI h1
def Well (cols:List (List Bool))(T:List aq):Prop:=T.length=cols.length∧∀(i:Nat) (c:List Bool) (m:aq),cols[i]?=some c→T[i]?=some m→TabI c m∧m.length≤200
def BefI (cols:List (List Bool))(b:BefM):Prop:=∃(i:Nat) (c:List Bool),b.table=(i:Int)∧cols[i]?=some c∧am b.key=true∧(b.r = []∨(aX c b.r=true∧bG b.r∧au b.r=b.key))
inductive LogI (cols:List (List Bool)):List aq→List BefM→Prop where
 | nil {T:List aq} (h:Well cols T):LogI cols T []
 | cons {T:List aq} {b:BefM} {l:List BefM} (h:Well cols T) (hb:BefI cols b) (t:LogI cols (eU T b) l):LogI cols T (b::l)
theorem LogI.well {cols:List (List Bool)}{T:List aq}{l:List BefM}(h:LogI cols T l):Well cols T:=by cases h<;>assumption
theorem pu (T:List aq)(l:List BefM)(b:BefM):bl T (l ++ [b])=bl (eU T b) l:=by unfold bl;rw [List.reverse_append];rfl
end Go.Proofs.YtdobimafhbfkhaaGreat
namespace Go.Proofs.YtdobimafhbfkhaaGreat
open Go.ChangeShapes Go.WideShapes Go.ChangeAt Go.RowKit
set_option maxRecDepth 100000
set_option linter.unusedSimpArgs false
theorem qq {w:World}{v:Value}{xs:List (PredE)}{F:Nat}{caps:Array Value}(p:PredE→Bool)(hrd:Rd w 9 v xs.length (xs.flatMap PredE.cells))(HF:∀x∈xs,PredF F caps w (PredE.cells x) (p x)) :
  Calls Tryz.prog 104 #[v,.func (.func F) #[] caps] w fun e w'=>e = .returned (.int .i64 (pp p xs))∧Kept (fun _=>False) w w':=by
 obtain⟨_,hml,ao,cap,rfl,hnc,hcm,_⟩:=id hrd;unfold maxLen at hml hcm;have wQ:=FH hrd;have yF:=FH HF;clear hrd HF;obtain⟨N,hN⟩:∃N,xs.length=N:=⟨_,rfl⟩;have HN:=FH hN;rw [hN]at wQ hml hnc ⊢;clear hN;go_enter Tryz.func104,Tryz.ntmps104;go_wp2_with fail
 go_loopw [8] (fun i wr=>∃j:Nat,i = .int .i64 j∧j≤N∧(∀x∈xs.take j,p x=false)∧Kept (fun _=>False) w wr) (fun i _=>N-(intOf i).toNat)
 case atStart=>exact⟨0,rfl,by omega,fun x hx=>by simp at hx,Kept.refl _ _⟩
 case round =>
  obtain⟨j,rfl,hj,hp,hk⟩:=hrel;have HP:=FH hp;have HK:=FH hk;clear hp hk;by_cases hlt:j<N
  ·have hi:(j:Int)<(N:Int):=by omega
   obtain⟨x,hx⟩:∃x,xs[j]?=some x:=⟨xs[j]'(by rw [HN.out];exact hlt),FP _⟩;obtain⟨g,o,rfl,hrng⟩:=bi PredE.len (wQ.out.kept HK.out (fun _ _ h=>h)) hx HN.out;have HL:=FH (dh hrng);have HX:=FH hx;obtain⟨hent,hcall⟩:=yF.out x (FQ hx);unfold Enters at hent;have HC:=FH (hcall wr HK.out);clear hx hrng hcall;cases hpx:p x
   ·rw [hpx]at HC
    have DW:=FH hpx;clear hpx;go_wp2_with (first|(refine aV rfl _ _ rfl _ _ rfl _ HL.out ?_)|(refine HC.out.mono ?_;rintro e1 w1 ⟨rfl,hk1⟩;have wN:=FH (HK.out.trans hk1 (fun _ h=>h.elim));clear hk1 HC HL));go_roundw
    case rel=>exact⟨j+1,by go_num,by omega,ni HP.out HX.out DW.out,wN.out⟩
    case measure=>simp [intOf];omega
   ·rw [hpx]at HC
    have DW:=FH hpx;clear hpx;go_wp2_with (first|(refine aV rfl _ _ rfl _ _ rfl _ HL.out ?_)|(refine HC.out.mono ?_;rintro e1 w1 ⟨rfl,hk1⟩;have wN:=FH (HK.out.trans hk1 (fun _ h=>h.elim));clear hk1 HC HL));go_ret;exact⟨by rw [idxI_at HP.out HX.out DW.out];rfl,wN.out⟩
  ·have hi:¬((j:Int)<(N:Int)):=by omega
   have he:pp p xs = -1:=sW (by have:=HP.out;rwa [FS (by rw [HN.out];omega)]at this);have HE:=FH he;clear he;go_wp2_with fail;go_ret;exact⟨by rw [HE.out];rfl,HK.out⟩
theorem iw {w:World}{v:Value}{xs:List (PredE)}{F:Nat}{caps:Array Value}(p:PredE→Bool)(hrd:Rd w 9 v xs.length (xs.flatMap PredE.cells))(HF:∀x∈xs,PredF F caps w (PredE.cells x) (p x)) :
  Calls Tryz.prog 88 #[v,.func (.func F) #[] caps] w fun e w'=>e = .returned (.bool (xs.any p))∧Kept (fun _=>False) w w':=by
 have H:=FH (qq p hrd HF);rw [←uY];clear hrd HF;generalize pp p xs=k at *;go_enter Tryz.func88,Tryz.ntmps88;go_wp2_with (go_at_call 104;refine H.out.mono ?_;rintro e1 w1 ⟨rfl,hk1⟩;have wN:=FH hk1;clear hk1 H);go_ret;exact⟨rfl,wN.out⟩
theorem vV {w:World}{v1 v2:Value}{l1 l2:List Val}(h1:em w v1 l1)(h2:em w v2 l2) :
  Calls Tryz.prog 42 #[v1,v2] w fun e w'=>e = .returned (.bool (decide (l1=l2)))∧∃n,w'=w.drewN n:=by
 obtain⟨_,m1,a1,c1,rfl,n1,_,_,g1⟩:=h1;obtain⟨_,m2,a2,c2,rfl,n2,_,_,g2⟩:=h2;unfold maxLen at m1 m2;by_cases hlen:l1.length=l2.length
 ·rw [←hlen]at g2
  have G1:=FH g1;have G2:=FH g2;clear g1 g2;generalize hL:l1.length=L at *;rw [←hlen];go_enter Tryz.func42,Tryz.ntmps42;go_wp2_with fail
  go_loopw [5] (fun i wr=>∃k:Nat,i = .int .i64 k∧k≤L∧l1.take k=l2.take k∧∃n,wr=w.drewN n) (fun i _=>L-(intOf i).toNat)
  case atStart=>exact⟨0,rfl,by omega,rfl,0,rfl⟩
  case round =>
   obtain⟨k,rfl,hk,ht,n0,rfl⟩:=hrel;have HT:=FH ht;clear ht;by_cases hlt:k<L
   ·obtain⟨a,ha⟩:∃a,l1[k]?=some a:=⟨l1[k]'(by omega),FP (by omega)⟩
    obtain⟨b,hb⟩:∃b,l2[k]?=some b:=⟨l2[k]'(by omega),FP (by omega)⟩;rcases G1.out with h0|⟨b1,o1,rfl,hc1⟩
    ·omega
    rcases G2.out with h0|⟨b2,o2,rfl,hc2⟩
    ·omega
    have x0:=hc1 _ _ (bB Val.len l1 k a ha 0 _ rfl);have x1:=hc1 _ _ (bB Val.len l1 k a ha 1 _ rfl);have x2:=hc1 _ _ (bB Val.len l1 k a ha 2 _ rfl);have y0:=hc2 _ _ (bB Val.len l2 k b hb 0 _ rfl);have y1:=hc2 _ _ (bB Val.len l2 k b hb 1 _ rfl);have y2:=hc2 _ _ (bB Val.len l2 k b hb 2 _ rfl);rw [Nat.add_zero]at x0 y0;rw [←Nat.add_assoc]at x1 x2 y1 y2;have HA:=FH ha;have HB:=FH hb;clear ha hb hc1 hc2;by_cases hab:a=b
    ·subst hab
     go_wp2_with fail
     go_quiet (fail)
     go_wp2_with fail;go_roundw
     case rel=>exact⟨k+1,by go_num,by omega,gH HT.out HA.out HB.out,_,rfl⟩
     case measure=>simp [intOf];omega
    ·have hv:eC a.t a.n a.s b.t b.n b.s=false:=by rw [jz];exact FY hab
     have hne:decide (l1=l2)=false:=FY (fun e=>by
      have h1:=HA.out;have h2:=HB.out;rw [e,h2]at h1;exact hab (Option.some.inj h1).symm)
     have zt:=FH hne;clear hne;go_wp2_with fail
     go_quiet (fail)
     go_wp2_with fail;go_ret;exact⟨by rw [zt.out];rfl,_,World.drewN_drewN _ _ _⟩
   ·have heq:decide (l1=l2)=true:=F5 (kH HT.out (by omega) (by omega))
    have Cs:=FH heq;clear heq;go_wp2_with fail;go_ret;exact⟨by rw [Cs.out];rfl,n0,rfl⟩
 ·have hne:decide (l1=l2)=false:=FY (fun e=>hlen (by rw [e]))
  have hbe:((l1.length:Int) == (l2.length:Int))=false:=by simp;omega
  have zt:=FH hne;clear hne g1 g2;go_enter Tryz.func42,Tryz.ntmps42;go_wp2_with fail;go_ret;exact⟨by rw [zt.out];rfl,0,rfl⟩
theorem jf {w:World}{g o N cap h:Nat}{r:List Val}{x:Val}(hrd:Rd w 3 (.slice (some ⟨g,o,none⟩) N cap) N (r.flatMap Val.cells))(hx:r[h]?=some x) :
  w.cell? ⟨g,o+h*3,none⟩=some (.bool x.t)∧w.cell? ⟨g,o+h*3+1,none⟩=some (.int .i64 x.n)∧w.cell? ⟨g,o+h*3+2,none⟩=some (.string x.s):=by
 have hlt:=(FO.1 hx).1;rcases hrd.2.2 with ⟨_,_,hv,_,_,_,hcell⟩
 cases hv;rcases hcell with h0|⟨_,_,hg,hc⟩
 ·have:=hrd.1
  rw [cH Val.len]at this;omega
 cases hg;have a0:=hc _ _ (bB Val.len r h _ hx 0 _ rfl);have a1:=hc _ _ (bB Val.len r h _ hx 1 _ rfl);have a2:=hc _ _ (bB Val.len r h _ hx 2 _ rfl);rw [Nat.add_zero]at a0;rw [←Nat.add_assoc]at a1 a2;exact⟨a0,a1,a2⟩
theorem vw {w:World}(x:PredE){rv:Value}{r:List Val}(hr:em w rv r):Calls Tryz.prog 87 #[.agg x.cells.toArray,rv] w fun e w'=>e = .returned (.bool (dR x.op x.col x.v x.w r))∧Kept (fun _=>False) w w':=by
 obtain⟨W1,hW1,hk1,hb1⟩:∃W,W=w.alloc (.cells x.cells.toArray tPr)∧Kept (fun _=>False) w W∧W.heap[w.heap.size]?=some (.cells x.cells.toArray tPr (0,0)):=⟨_,rfl,(Kept.refl _ _).alloc _,ak _ _⟩;have wQ:=FH (hr.kept hk1 (fun _ _ h=>h));obtain⟨_,hml,ra,rc,rfl,hnc,hcm,_⟩:=id hr;unfold maxLen at hml hcm;have wM:=FH hW1;have wN:=FH hk1;have wL:=FH hb1;clear hr hW1 hk1 hb1;by_cases c1:x.col<0
 ·have HR:=FH (show dR x.op x.col x.v x.w r=false by unfold dR;rw [if_pos (.inl c1)])
  go_enter Tryz.func87,Tryz.ntmps87;go_upto_region 1 with fail
  rw [←wM.out];clear wM;generalize w.heap.size=b1 at wL ⊢;obtain⟨x0,x1,x2,x3,x4,x5,x6,x7,x8⟩:=cu wL.out;go_wp2_with fail;go_ret;exact⟨by rw [HR.out];rfl,wN.out⟩
 by_cases c2:(r.length:Int)≤x.col
 ·have HR:=FH (show dR x.op x.col x.v x.w r=false by unfold dR;rw [if_pos (.inr c2)])
  have c2':x.col ≥ (r.length:Int):=c2;go_enter Tryz.func87,Tryz.ntmps87;go_upto_region 1 with fail
  rw [←wM.out];clear wM;generalize w.heap.size=b1 at wL ⊢;obtain⟨x0,x1,x2,x3,x4,x5,x6,x7,x8⟩:=cu wL.out;go_wp2_with fail;go_ret;exact⟨by rw [HR.out];rfl,wN.out⟩
 obtain⟨k,hk⟩:∃k:Nat,x.col=(k:Int):=⟨x.col.toNat,by omega⟩;have hkl:k<r.length:=by omega
 have hkl2:(k:Int)<(r.length:Int):=by omega
 have hkn:¬((k:Int) ≥ (r.length:Int)):=by omega
 obtain⟨y,hy⟩:∃y,r[k]?=some y:=⟨r[k],FP hkl⟩;obtain⟨g,og,rfl⟩:∃g o,ra=some ⟨g,o,none⟩:=by
  rcases wQ.out.2.2 with ⟨_,_,hv,_,_,_,hc⟩
  cases hv;rcases hc with h0|⟨g,o,h,_⟩
  ·omega
  ·exact⟨g,o,h⟩
 have ye:=FH hk;have HY:=FH hy;obtain⟨c,hc⟩:∃c,ai y x.v=c:=⟨_,rfl⟩;have yj:=FH hc;have xi:=FH (show dR x.op x.col x.v x.w r=(if x.op=3 then decide (c=0)else if x.op=4 then !decide (c=0)else if x.op=5 then decide (c<0)else if x.op=6 then decide (c≤0)else if x.op=7 then decide (0<c)else if x.op=8 then decide (0≤c)else decide (0≤c)&&decide (ai y x.w≤0)) by
  unfold dR;rw [if_neg (by omega)];have:r.getD x.col.toNat default=y:=by rw [hk,F6,FW,hy];rfl
  simp only [this,hc])
 clear c1 c2 hk hy hc hkl;by_cases p3:x.op=3
 ·have HO:=FH p3
  clear p3;go_enter Tryz.func87,Tryz.ntmps87;go_upto_region 1 with fail
  rw [←wM.out];clear wM;generalize w.heap.size=b1 at wL ⊢;obtain⟨x0,x1,x2,x3,x4,x5,x6,x7,x8⟩:=cu wL.out;rw [ye.out]at x1;obtain⟨y0,y1,y2⟩:=jf wQ.out HY.out;go_upto_region 3 with fail
  have wY:=FH (bT y x.v W1.drew);rw [yj.out]at wY;refine aH [rq 0 7,rq 1 7,rq 2 7,rq 3 7,rq 4 7,rq 5 7,rq 6 7,(7,true,0),rq 8 999] ?_;iterate 7 (refine ae rfl rfl fun K hK=>?_;go_simp;apply hK;clear hK K)
  refine af rfl ?_;refine al rfl fun K hK=>?_;go_simp;refine wY.out.mono ?_;rintro e2 w2 ⟨rfl,hk2⟩;have wV:=FH (wN.out.drew.trans hk2 (fun _ h=>h.elim));have wX:=FH ((hk2.block b1 (aw (by exact wL.out:W1.drew.heap[b1]?=_)) (fun h=>h)).trans wL.out);have zP:=FH (wQ.out.drew.kept hk2 (fun _ _ h=>h));clear hk2 wY x0 x1 x2 x3 x4 x5 x6 x7 x8 y0 y1 y2;obtain⟨x0,x1,x2,x3,x4,x5,x6,x7,x8⟩:=cu wX.out;rw [ye.out]at x1;refine hK _ _ ?_;clear hK K;refine wpList_nil ?_;apply And.intro
  ·go_simp
  refine ae rfl rfl fun K hK=>?_;go_simp;apply hK;clear hK K;refine ag ?_;rw [HO.out]at x0;go_wp2_with fail;go_ret;exact⟨by rw [xi.out,HO.out];simp [bne,Int.not_lt,beq_iff_eq];try rfl,wV.out⟩
 by_cases p4:x.op=4
 ·have HO:=FH p4
  clear p3 p4;go_enter Tryz.func87,Tryz.ntmps87;go_upto_region 1 with fail
  rw [←wM.out];clear wM;generalize w.heap.size=b1 at wL ⊢;obtain⟨x0,x1,x2,x3,x4,x5,x6,x7,x8⟩:=cu wL.out;rw [ye.out]at x1;obtain⟨y0,y1,y2⟩:=jf wQ.out HY.out;go_upto_region 3 with fail
  have wY:=FH (bT y x.v W1.drew);rw [yj.out]at wY;refine aH [rq 0 7,rq 1 7,rq 2 7,rq 3 7,rq 4 7,rq 5 7,rq 6 7,(7,true,0),rq 8 999] ?_;iterate 7 (refine ae rfl rfl fun K hK=>?_;go_simp;apply hK;clear hK K)
  refine af rfl ?_;refine al rfl fun K hK=>?_;go_simp;refine wY.out.mono ?_;rintro e2 w2 ⟨rfl,hk2⟩;have wV:=FH (wN.out.drew.trans hk2 (fun _ h=>h.elim));have wX:=FH ((hk2.block b1 (aw (by exact wL.out:W1.drew.heap[b1]?=_)) (fun h=>h)).trans wL.out);have zP:=FH (wQ.out.drew.kept hk2 (fun _ _ h=>h));clear hk2 wY x0 x1 x2 x3 x4 x5 x6 x7 x8 y0 y1 y2;obtain⟨x0,x1,x2,x3,x4,x5,x6,x7,x8⟩:=cu wX.out;rw [ye.out]at x1;refine hK _ _ ?_;clear hK K;refine wpList_nil ?_;apply And.intro
  ·go_simp
  refine ae rfl rfl fun K hK=>?_;go_simp;apply hK;clear hK K;refine ag ?_;rw [HO.out]at x0;go_wp2_with fail;go_ret;exact⟨by rw [xi.out,HO.out];simp [bne,Int.not_lt,beq_iff_eq];try rfl,wV.out⟩
 by_cases p5:x.op=5
 ·have HO:=FH p5
  clear p3 p4 p5;go_enter Tryz.func87,Tryz.ntmps87;go_upto_region 1 with fail
  rw [←wM.out];clear wM;generalize w.heap.size=b1 at wL ⊢;obtain⟨x0,x1,x2,x3,x4,x5,x6,x7,x8⟩:=cu wL.out;rw [ye.out]at x1;obtain⟨y0,y1,y2⟩:=jf wQ.out HY.out;go_upto_region 3 with fail
  have wY:=FH (bT y x.v W1.drew);rw [yj.out]at wY;refine aH [rq 0 7,rq 1 7,rq 2 7,rq 3 7,rq 4 7,rq 5 7,rq 6 7,(7,true,0),rq 8 999] ?_;iterate 7 (refine ae rfl rfl fun K hK=>?_;go_simp;apply hK;clear hK K)
  refine af rfl ?_;refine al rfl fun K hK=>?_;go_simp;refine wY.out.mono ?_;rintro e2 w2 ⟨rfl,hk2⟩;have wV:=FH (wN.out.drew.trans hk2 (fun _ h=>h.elim));have wX:=FH ((hk2.block b1 (aw (by exact wL.out:W1.drew.heap[b1]?=_)) (fun h=>h)).trans wL.out);have zP:=FH (wQ.out.drew.kept hk2 (fun _ _ h=>h));clear hk2 wY x0 x1 x2 x3 x4 x5 x6 x7 x8 y0 y1 y2;obtain⟨x0,x1,x2,x3,x4,x5,x6,x7,x8⟩:=cu wX.out;rw [ye.out]at x1;refine hK _ _ ?_;clear hK K;refine wpList_nil ?_;apply And.intro
  ·go_simp
  refine ae rfl rfl fun K hK=>?_;go_simp;apply hK;clear hK K;refine ag ?_;rw [HO.out]at x0;go_wp2_with fail;go_ret;exact⟨by rw [xi.out,HO.out];simp [bne,Int.not_lt,beq_iff_eq];try rfl,wV.out⟩
 by_cases p6:x.op=6
 ·have HO:=FH p6
  clear p3 p4 p5 p6;go_enter Tryz.func87,Tryz.ntmps87;go_upto_region 1 with fail
  rw [←wM.out];clear wM;generalize w.heap.size=b1 at wL ⊢;obtain⟨x0,x1,x2,x3,x4,x5,x6,x7,x8⟩:=cu wL.out;rw [ye.out]at x1;obtain⟨y0,y1,y2⟩:=jf wQ.out HY.out;go_upto_region 3 with fail
  have wY:=FH (bT y x.v W1.drew);rw [yj.out]at wY;refine aH [rq 0 7,rq 1 7,rq 2 7,rq 3 7,rq 4 7,rq 5 7,rq 6 7,(7,true,0),rq 8 999] ?_;iterate 7 (refine ae rfl rfl fun K hK=>?_;go_simp;apply hK;clear hK K)
  refine af rfl ?_;refine al rfl fun K hK=>?_;go_simp;refine wY.out.mono ?_;rintro e2 w2 ⟨rfl,hk2⟩;have wV:=FH (wN.out.drew.trans hk2 (fun _ h=>h.elim));have wX:=FH ((hk2.block b1 (aw (by exact wL.out:W1.drew.heap[b1]?=_)) (fun h=>h)).trans wL.out);have zP:=FH (wQ.out.drew.kept hk2 (fun _ _ h=>h));clear hk2 wY x0 x1 x2 x3 x4 x5 x6 x7 x8 y0 y1 y2;obtain⟨x0,x1,x2,x3,x4,x5,x6,x7,x8⟩:=cu wX.out;rw [ye.out]at x1;refine hK _ _ ?_;clear hK K;refine wpList_nil ?_;apply And.intro
  ·go_simp
  refine ae rfl rfl fun K hK=>?_;go_simp;apply hK;clear hK K;refine ag ?_;rw [HO.out]at x0;go_wp2_with fail;go_ret;exact⟨by rw [xi.out,HO.out];simp [bne,Int.not_lt,beq_iff_eq];try rfl,wV.out⟩
 by_cases p7:x.op=7
 ·have HO:=FH p7
  clear p3 p4 p5 p6 p7;go_enter Tryz.func87,Tryz.ntmps87;go_upto_region 1 with fail
  rw [←wM.out];clear wM;generalize w.heap.size=b1 at wL ⊢;obtain⟨x0,x1,x2,x3,x4,x5,x6,x7,x8⟩:=cu wL.out;rw [ye.out]at x1;obtain⟨y0,y1,y2⟩:=jf wQ.out HY.out;go_upto_region 3 with fail
  have wY:=FH (bT y x.v W1.drew);rw [yj.out]at wY;refine aH [rq 0 7,rq 1 7,rq 2 7,rq 3 7,rq 4 7,rq 5 7,rq 6 7,(7,true,0),rq 8 999] ?_;iterate 7 (refine ae rfl rfl fun K hK=>?_;go_simp;apply hK;clear hK K)
  refine af rfl ?_;refine al rfl fun K hK=>?_;go_simp;refine wY.out.mono ?_;rintro e2 w2 ⟨rfl,hk2⟩;have wV:=FH (wN.out.drew.trans hk2 (fun _ h=>h.elim));have wX:=FH ((hk2.block b1 (aw (by exact wL.out:W1.drew.heap[b1]?=_)) (fun h=>h)).trans wL.out);have zP:=FH (wQ.out.drew.kept hk2 (fun _ _ h=>h));clear hk2 wY x0 x1 x2 x3 x4 x5 x6 x7 x8 y0 y1 y2;obtain⟨x0,x1,x2,x3,x4,x5,x6,x7,x8⟩:=cu wX.out;rw [ye.out]at x1;refine hK _ _ ?_;clear hK K;refine wpList_nil ?_;apply And.intro
  ·go_simp
  refine ae rfl rfl fun K hK=>?_;go_simp;apply hK;clear hK K;refine ag ?_;rw [HO.out]at x0;go_wp2_with fail;go_ret;exact⟨by rw [xi.out,HO.out];simp [bne,Int.not_lt,beq_iff_eq];try rfl,wV.out⟩
 by_cases p8:x.op=8
 ·have HO:=FH p8
  clear p3 p4 p5 p6 p7 p8;go_enter Tryz.func87,Tryz.ntmps87;go_upto_region 1 with fail
  rw [←wM.out];clear wM;generalize w.heap.size=b1 at wL ⊢;obtain⟨x0,x1,x2,x3,x4,x5,x6,x7,x8⟩:=cu wL.out;rw [ye.out]at x1;obtain⟨y0,y1,y2⟩:=jf wQ.out HY.out;go_upto_region 3 with fail
  have wY:=FH (bT y x.v W1.drew);rw [yj.out]at wY;refine aH [rq 0 7,rq 1 7,rq 2 7,rq 3 7,rq 4 7,rq 5 7,rq 6 7,(7,true,0),rq 8 999] ?_;iterate 7 (refine ae rfl rfl fun K hK=>?_;go_simp;apply hK;clear hK K)
  refine af rfl ?_;refine al rfl fun K hK=>?_;go_simp;refine wY.out.mono ?_;rintro e2 w2 ⟨rfl,hk2⟩;have wV:=FH (wN.out.drew.trans hk2 (fun _ h=>h.elim));have wX:=FH ((hk2.block b1 (aw (by exact wL.out:W1.drew.heap[b1]?=_)) (fun h=>h)).trans wL.out);have zP:=FH (wQ.out.drew.kept hk2 (fun _ _ h=>h));clear hk2 wY x0 x1 x2 x3 x4 x5 x6 x7 x8 y0 y1 y2;obtain⟨x0,x1,x2,x3,x4,x5,x6,x7,x8⟩:=cu wX.out;rw [ye.out]at x1;refine hK _ _ ?_;clear hK K;refine wpList_nil ?_;apply And.intro
  ·go_simp
  refine ae rfl rfl fun K hK=>?_;go_simp;apply hK;clear hK K;refine ag ?_;rw [HO.out]at x0;go_wp2_with fail;go_ret;exact⟨by rw [xi.out,HO.out];simp [bne,Int.not_lt,beq_iff_eq];try rfl,wV.out⟩
 have n3:(x.op == 3)=false:=by simpa using p3
 have n4:(x.op == 4)=false:=by simpa using p4
 have n5:(x.op == 5)=false:=by simpa using p5
 have n6:(x.op == 6)=false:=by simpa using p6
 have n7:(x.op == 7)=false:=by simpa using p7
 have n8:(x.op == 8)=false:=by simpa using p8
 have HR:=FH (show dR x.op x.col x.v x.w r=(decide (0≤c)&&decide (ai y x.w≤0)) by rw [xi.out,if_neg p3,if_neg p4,if_neg p5,if_neg p6,if_neg p7,if_neg p8]);clear p3 p4 p5 p6 p7 p8;by_cases hc0:0≤c
 ·have hc1:c ≥ 0:=hc0
  go_enter Tryz.func87,Tryz.ntmps87;go_upto_region 1 with fail
  rw [←wM.out];clear wM;generalize w.heap.size=b1 at wL ⊢;obtain⟨x0,x1,x2,x3,x4,x5,x6,x7,x8⟩:=cu wL.out;rw [ye.out]at x1;obtain⟨y0,y1,y2⟩:=jf wQ.out HY.out;go_upto_region 3 with fail
  have wY:=FH (bT y x.v W1.drew);rw [yj.out]at wY;refine aH [rq 0 7,rq 1 7,rq 2 7,rq 3 7,rq 4 7,rq 5 7,rq 6 7,(7,true,0),rq 8 999] ?_;iterate 7 (refine ae rfl rfl fun K hK=>?_;go_simp;apply hK;clear hK K)
  refine af rfl ?_;refine al rfl fun K hK=>?_;go_simp;refine wY.out.mono ?_;rintro e2 w2 ⟨rfl,hk2⟩;have wV:=FH (wN.out.drew.trans hk2 (fun _ h=>h.elim));have wX:=FH ((hk2.block b1 (aw (by exact wL.out:W1.drew.heap[b1]?=_)) (fun h=>h)).trans wL.out);have zP:=FH (wQ.out.drew.kept hk2 (fun _ _ h=>h));clear hk2 wY x0 x1 x2 x3 x4 x5 x6 x7 x8 y0 y1 y2;obtain⟨x0,x1,x2,x3,x4,x5,x6,x7,x8⟩:=cu wX.out;rw [ye.out]at x1;refine hK _ _ ?_;clear hK K;refine wpList_nil ?_;apply And.intro
  ·go_simp
  refine ae rfl rfl fun K hK=>?_;go_simp;apply hK;clear hK K;refine ag ?_;obtain⟨y0,y1,y2⟩:=jf zP.out HY.out;go_upto_region 17 with fail
  obtain⟨d,hd⟩:∃d,ai y x.w=d:=⟨_,rfl⟩;have EC:=FH hd;have B5:=FH (bT y x.w w2.drew);rw [EC.out]at B5;clear hd;refine aH [rq 0 10,rq 1 10,rq 2 10,rq 3 10,rq 4 10,rq 5 10,rq 6 10,rq 7 10,rq 8 10,rq 9 10,(10,true,0),rq 11 999,rq 12 999,rq 13 999] ?_;iterate 10 (first|(refine ax rfl rfl ?_;simp only [Act.put,FI,FJ,FK,FL,FM,FN])|((first|refine ae rfl rfl (fun K hK=>?_)|refine ar rfl rfl fun K hK=>?_);go_simp;apply hK;clear hK K))
  refine af rfl ?_;refine al rfl fun K hK=>?_;go_simp;refine B5.out.mono ?_;rintro e3 w3 ⟨rfl,hk3⟩;have xV:=FH (wV.out.drew.trans hk3 (fun _ h=>h.elim));clear hk3 B5;refine hK _ _ ?_;clear hK K;refine wpList_nil ?_;apply And.intro
  ·go_simp
  iterate 3 (first|(refine ax rfl rfl ?_;simp only [Act.put,FI,FJ,FK,FL,FM,FN])|((first|refine ae rfl rfl (fun K hK=>?_)|refine ar rfl rfl fun K hK=>?_);go_simp;apply hK;clear hK K))
  refine ag ?_;go_wp2_with fail;go_ret;exact⟨by rw [HR.out,EC.out];simp [hc0],xV.out⟩
 ·have hc1:¬c ≥ 0:=hc0
  go_enter Tryz.func87,Tryz.ntmps87;go_upto_region 1 with fail
  rw [←wM.out];clear wM;generalize w.heap.size=b1 at wL ⊢;obtain⟨x0,x1,x2,x3,x4,x5,x6,x7,x8⟩:=cu wL.out;rw [ye.out]at x1;obtain⟨y0,y1,y2⟩:=jf wQ.out HY.out;go_upto_region 3 with fail
  have wY:=FH (bT y x.v W1.drew);rw [yj.out]at wY;refine aH [rq 0 7,rq 1 7,rq 2 7,rq 3 7,rq 4 7,rq 5 7,rq 6 7,(7,true,0),rq 8 999] ?_;iterate 7 (refine ae rfl rfl fun K hK=>?_;go_simp;apply hK;clear hK K)
  refine af rfl ?_;refine al rfl fun K hK=>?_;go_simp;refine wY.out.mono ?_;rintro e2 w2 ⟨rfl,hk2⟩;have wV:=FH (wN.out.drew.trans hk2 (fun _ h=>h.elim));have wX:=FH ((hk2.block b1 (aw (by exact wL.out:W1.drew.heap[b1]?=_)) (fun h=>h)).trans wL.out);have zP:=FH (wQ.out.drew.kept hk2 (fun _ _ h=>h));clear hk2 wY x0 x1 x2 x3 x4 x5 x6 x7 x8 y0 y1 y2;obtain⟨x0,x1,x2,x3,x4,x5,x6,x7,x8⟩:=cu wX.out;rw [ye.out]at x1;refine hK _ _ ?_;clear hK K;refine wpList_nil ?_;apply And.intro
  ·go_simp
  refine ae rfl rfl fun K hK=>?_;go_simp;apply hK;clear hK K;refine ag ?_;go_upto_region 17 with fail
  refine aH [rq 0 10,rq 1 10,rq 2 10,rq 3 10,rq 4 10,rq 5 10,rq 6 10,rq 7 10,rq 8 10,rq 9 10,(10,true,0),rq 11 999,rq 12 999,rq 13 999] ?_;iterate 10 (first|(refine ax rfl rfl ?_;simp only [Act.put,FI,FJ,FK,FL,FM,FN])|((first|refine ae rfl rfl (fun K hK=>?_)|refine ar rfl rfl fun K hK=>?_);go_simp;apply hK;clear hK K))
  refine af rfl ?_;refine bU rfl ?_;simp only [Act.put,FI,FJ,FK];refine wpList_nil ?_;apply And.intro
  ·go_simp
  iterate 3 (first|(refine ax rfl rfl ?_;simp only [Act.put,FI,FJ,FK,FL,FM,FN])|((first|refine ae rfl rfl (fun K hK=>?_)|refine ar rfl rfl fun K hK=>?_);go_simp;apply hK;clear hK K))
  refine ag ?_;go_wp2_with fail;go_ret;exact⟨by rw [HR.out,FY (Int.not_le.mpr hc0)];rfl,wV.out.drew⟩
end Go.Proofs.YtdobimafhbfkhaaGreat
