/- Joined texts: What is taken back, as data. What put and out noted gives the tables back. IndexFunc, ContainsFunc over predicates. (printed by genq.py) Are two rows the same (ratlineref02.Same). Whether a part about a column holds (pred.leaf). -/
import Derived.Test.YtdobimafhbfkhaaGreatOB32
import Derived.Test.YtdobimafhbfkhaaGreatOB9
set_option maxHeartbeats 64000000
namespace Go.Proofs.YtdobimafhbfkhaaGreat
set_option linter.unusedSimpArgs false
def ltR (k:Val)(q:List Val):Bool:=decide (aj (aG q) k<0)
def gtR (k:Val)(q:List Val):Bool:=decide (0<aj (aG q) k)
def sG (r:List Val):Val×VT:=(aG r,RowT.none)
theorem iK (m:ar)(r:List Val):cA m r=m.filter (ltR (aG r))++r::m.filter (gtR (aG r)):=rfl
theorem jC {x:List Val}{m:ar}(h:bh (eP (x::m))):(∀y∈m,aj (aG x) (aG y)<0)∧bh (eP m):=by
 have h':(sG x::eP m).Pairwise (fun a b=>aj a.1 b.1<0):=h
 rw [List.pairwise_cons]at h'
 exact⟨fun y hy=>h'.1 (sG y) (List.mem_map_of_mem hy),h'.2⟩
theorem above {x:List Val}{m:ar}{k:Val}(h:∀y∈m,aj (aG x) (aG y)<0)(hx:aj k (aG x)≤0):m.filter (ltR k) = []∧m.filter (gtR k)=m:=by
 have hk:∀y∈m,aj k (aG y)<0:=fun y hy=>jB hx (h y hy)
 refine⟨List.filter_eq_nil_iff.2 fun y hy=>?_,List.filter_eq_self.2 fun y hy=>?_⟩
 ·have:=hk y hy
  have e:=db k (aG y)
  unfold ltR
  rw [decide_eq_true_eq]
  omega
 ·have:=hk y hy
  have e:=db k (aG y)
  unfold gtR
  rw [decide_eq_true_eq]
  omega
theorem kB {k:Val}:∀ {m:ar},bh (eP m)→(∀q∈m,aj (aG q) k≠0)→m.filter (ltR k)++m.filter (gtR k)=m
 | [],_,_=>rfl
 | x::m,hs,hn=>by
  obtain⟨h1,h2⟩:=jC hs
  have hx:=hn x (List.mem_cons_self ..)
  by_cases hlt:aj (aG x) k<0
  ·have e1:ltR k x=true:=decide_eq_true hlt
   have e2:gtR k x=false:=decide_eq_false (by omega)
   rw [List.filter_cons,List.filter_cons,e1,e2]
   simp only [if_true,Bool.false_eq_true,if_false,List.cons_append]
   rw [kB h2 (fun q hq=>hn q (List.mem_cons_of_mem _ hq))]
  ·have e1:ltR k x=false:=decide_eq_false hlt
   have e2:gtR k x=true:=decide_eq_true (by omega)
   obtain⟨g1,g2⟩:=above (k:=k) h1 (by have:=db (aG x) k;omega)
   rw [List.filter_cons,List.filter_cons,e1,e2,g1,g2]
   rfl
theorem ig {k:Val}{q:List Val}:∀ {m:ar},bh (eP m)→q∈m→aj (aG q) k=0→m.filter (ltR k)++q::m.filter (gtR k)=m
 | x::m,hs,hq,h0=>by
  obtain⟨h1,h2⟩:=jC hs
  rcases List.mem_cons.1 hq with rfl|hq
  ·have e1:ltR k q=false:=decide_eq_false (by omega)
   have e2:gtR k q=false:=decide_eq_false (by omega)
   obtain⟨g1,g2⟩:=above (k:=k) h1 (by have:=db (aG q) k;omega)
   rw [List.filter_cons,List.filter_cons,e1,e2,g1,g2]
   rfl
  ·have hlt:aj (aG x) k<0:=iX (h1 q hq) (by omega)
   have e1:ltR k x=true:=decide_eq_true hlt
   have e2:gtR k x=false:=decide_eq_false (by omega)
   rw [List.filter_cons,List.filter_cons,e1,e2]
   simp only [if_true,Bool.false_eq_true,if_false,List.cons_append]
   rw [ig h2 hq h0]
theorem l7 (k:Val)(y:List Val):(ltR k y&&gtR k y)=false:=by
 unfold ltR gtR
 rw [Bool.and_eq_false_iff,decide_eq_false_iff_not,decide_eq_false_iff_not]
 omega
theorem qh (m:ar):m.filter (fun _=>false) = []:=List.filter_eq_nil_iff.2 (fun _ _=>by simp)
theorem filt_lt (m:ar)(r:List Val):(cA m r).filter (ltR (aG r))=m.filter (ltR (aG r)):=by
 have e1:ltR (aG r) r=false:=decide_eq_false (by rw [cP];omega)
 rw [iK,List.filter_append,List.filter_cons,e1,List.filter_filter,List.filter_filter]
 simp only [Bool.false_eq_true,if_false,l7,Bool.and_self,qh,List.append_nil]
theorem filt_gt (m:ar)(r:List Val):(cA m r).filter (gtR (aG r))=m.filter (gtR (aG r)):=by
 have e1:gtR (aG r) r=false:=decide_eq_false (by rw [cP];omega)
 rw [iK,List.filter_append,List.filter_cons,e1,List.filter_filter,List.filter_filter]
 simp only [Bool.false_eq_true,if_false,Bool.and_comm (gtR _ _),l7,Bool.and_self,qh,List.nil_append]
theorem put_put {c:List Bool}{m:ar}(h:TabI c m){r q:List Val}(hq:q∈m)(hk:aG q=aG r):cA (cA m r) q=m:=by
 rw [iK (cA m r) q,hk,filt_lt,filt_gt]
 exact ig h.sorted hq (by rw [hk];exact cP _)
theorem del_put {c:List Bool}{m:ar}(h:TabI c m){r:List Val}(hr:bw c r=true)(hno:aU m (aG r)=none):dj (cA m r) (aG r)=m:=by
 have hk:al (aG r)=true:=by obtain⟨k,_,e,hk,_⟩:=dU hr;rw [e];exact hk
 have hne:∀q∈m,aj (aG q) (aG r)≠0:=fun q hq h0=>by
  have e:=jn (h.keys q hq) hk h0
  have:=ee.2 ⟨q,hq,e⟩
  rw [hno]at this
  cases this
 unfold dj
 rw [iK,List.filter_append,List.filter_cons]
 have e1:(!decide (aj (aG r) (aG r)=0))=false:=by rw [cP];rfl
 rw [e1]
 simp only [Bool.false_eq_true,if_false]
 have f1:∀p:List Val→Bool,(m.filter p).filter (fun q=>!decide (aj (aG q) (aG r)=0))=m.filter p:=fun p=>List.filter_eq_self.2 (fun q hq=>by simpa using hne q (List.mem_filter.1 hq).1)
 rw [f1,f1]
 exact kB h.sorted hne
theorem nt (m:ar)(k:Val):(dj m k).filter (ltR k)=m.filter (ltR k)∧(dj m k).filter (gtR k)=m.filter (gtR k):=by
 unfold dj
 rw [List.filter_filter,List.filter_filter]
 refine⟨List.filter_congr fun q _=>?_,List.filter_congr fun q _=>?_⟩
 ·unfold ltR
  by_cases h:aj (aG q) k<0
  ·rw [decide_eq_true h,decide_eq_false (show ¬aj (aG q) k=0 by omega)];rfl
  ·rw [decide_eq_false h];rfl
 ·unfold gtR
  by_cases h:0<aj (aG q) k
  ·rw [decide_eq_true h,decide_eq_false (show ¬aj (aG q) k=0 by omega)];rfl
  ·rw [decide_eq_false h];rfl
theorem put_del {c:List Bool}{m:ar}(h:TabI c m){q:List Val}(hq:q∈m):cA (dj m (aG q)) q=m:=by
 rw [iK,(nt m (aG q)).1,(nt m (aG q)).2]
 exact ig h.sorted hq (cP _)
theorem sL {α:Type}{l:List α}{i:Nat}{a:α}(h:l[i]?=some a)(b:α):(l.set i b).set i a=l:=by
 rw [List.set_set]
 refine List.ext_getElem? fun j=>?_
 by_cases hj:i=j
 ·subst hj
  rw [List.getElem?_set_self (List.getElem?_eq_some_iff.1 h).1,h]
 ·rw [List.getElem?_set_ne hj]
theorem mF {c:List Bool}{r:List Val}(h:bw c r=true):r.isEmpty=false:=by
 obtain⟨k,h0,_⟩:=dU h
 cases r with
 | nil=>cases h0
 | cons a r=>rfl
theorem mN {T:List ar}{i:Nat}{m m':ar}(hm:T[i]?=some m){k:Val}{q:List Val}(h:(if q.isEmpty then dj m' k else cA m' q)=m):eN (T.set i m') ⟨(i:Int),k,q⟩=T:=by
 have hlt:=(List.getElem?_eq_some_iff.1 hm).1
 unfold eN
 simp only [Int.toNat_natCast]
 rw [List.getD_eq_getElem?_getD,List.getElem?_set_self hlt,Option.getD_some,h]
 exact sL hm m'
theorem oN {T:List ar}{i:Nat}{c:List Bool}{m:ar}{r:List Val}(hm:T[i]?=some m)(hI:TabI c m)(hr:bw c r=true):eN (T.set i (cA m r)) ⟨(i:Int),aG r,(aU m (aG r)).getD []⟩=T:=by
 refine mN hm ?_
 cases hf:aU m (aG r)with
 | none=>exact del_put hI hr hf
 | some q =>
  obtain⟨hq,hk⟩:=dA hf
  rw [Option.getD_some,mF (hI.fits q hq)]
  exact put_put hI hq hk
theorem sE {T:List ar}{i:Nat}{c:List Bool}{m:ar}{k:Val}(hm:T[i]?=some m)(hI:TabI c m)(hf:(aU m k).isSome=true):eN (T.set i (dj m k)) ⟨(i:Int),k,(aU m k).getD []⟩=T:=by
 refine mN hm ?_
 cases hq:aU m k with
 | none=>rw [hq]at hf;cases hf
 | some q =>
  obtain⟨h1,h2⟩:=dA hq
  rw [Option.getD_some,mF (hI.fits q h1),←h2]
  exact put_del hI h1
def Well (cols:List (List Bool))(T:List ar):Prop:=T.length=cols.length∧∀(i:Nat) (c:List Bool) (m:ar),cols[i]?=some c→T[i]?=some m→TabI c m∧m.length≤200
def BefI (cols:List (List Bool))(b:BefM):Prop:=∃(i:Nat) (c:List Bool),b.table=(i:Int)∧cols[i]?=some c∧al b.key=true∧(b.r = []∨(bw c b.r=true∧bD b.r∧aG b.r=b.key))
inductive LogI (cols:List (List Bool)):List ar→List BefM→Prop where
 | nil {T:List ar} (h:Well cols T):LogI cols T []
 | cons {T:List ar} {b:BefM} {l:List BefM} (h:Well cols T) (hb:BefI cols b) (t:LogI cols (eN T b) l):LogI cols T (b::l)
theorem LogI.well {cols:List (List Bool)}{T:List ar}{l:List BefM}(h:LogI cols T l):Well cols T:=by cases h<;>assumption
theorem mO (T:List ar)(l:List BefM)(b:BefM):bK T (l ++ [b])=bK (eN T b) l:=by unfold bK;rw [List.reverse_append];rfl
end Go.Proofs.YtdobimafhbfkhaaGreat
namespace Go.Proofs.YtdobimafhbfkhaaGreat
open Go.ChangeShapes Go.WideShapes Go.ChangeAt Go.RowKit
set_option maxRecDepth 100000
set_option linter.unusedSimpArgs false
theorem nA {w:World}{v:Value}{xs:List (PredE)}{F:Nat}{caps:Array Value}(p:PredE→Bool)(hrd:Rd w 9 v xs.length (xs.flatMap PredE.cells))(HF:∀x∈xs,PredF F caps w (PredE.cells x) (p x)) :
  Calls Tryz.prog 104 #[v,.func (.func F) #[] caps] w fun e w'=>e = .returned (.int .i64 (mT p xs))∧Kept (fun _=>False) w w':=by
 obtain⟨_,hml,ao,cap,rfl,hnc,hcm,_⟩:=id hrd
 unfold maxLen at hml hcm
 have tM:=B5 hrd
 have vV:=B5 HF
 clear hrd HF
 obtain⟨N,hN⟩:∃N,xs.length=N:=⟨_,rfl⟩
 have HN:=B5 hN
 rw [hN]at tM hml hnc ⊢
 clear hN
 go_enter Tryz.func104,Tryz.ntmps104
 go_wp2_with fail
 go_loopw [8] (fun i wr=>∃j:Nat,i = .int .i64 j∧j≤N∧(∀x∈xs.take j,p x=false)∧Kept (fun _=>False) w wr) (fun i _=>N-(intOf i).toNat)
 case atStart=>exact⟨0,rfl,by omega,fun x hx=>by simp at hx,Kept.refl _ _⟩
 case round =>
  obtain⟨j,rfl,hj,hp,hk⟩:=hrel
  have HP:=B5 hp
  have HK:=B5 hk
  clear hp hk
  by_cases hlt:j<N
  ·have hi:(j:Int)<(N:Int):=by omega
   obtain⟨x,hx⟩:∃x,xs[j]?=some x:=⟨xs[j]'(by rw [HN.out];exact hlt),List.getElem?_eq_getElem _⟩
   obtain⟨g,o,rfl,hrng⟩:=bJ PredE.len (tM.out.kept HK.out (fun _ _ h=>h)) hx HN.out
   have HL:=B5 (dN hrng)
   have HX:=B5 hx
   obtain⟨hent,hcall⟩:=vV.out x (List.mem_of_getElem? hx)
   unfold Enters at hent
   have HC:=B5 (hcall wr HK.out)
   clear hx hrng hcall
   cases hpx:p x
   ·rw [hpx]at HC
    have AI:=B5 hpx
    clear hpx
    go_wp2_with (first|(refine bF rfl _ _ rfl _ _ rfl _ HL.out ?_)|(refine HC.out.mono ?_;rintro e1 w1 ⟨rfl,hk1⟩;have tK:=B5 (HK.out.trans hk1 (fun _ h=>h.elim));clear hk1 HC HL))
    go_roundw
    case rel=>exact⟨j+1,by go_num,by omega,lz HP.out HX.out AI.out,tK.out⟩
    case measure=>simp [intOf];omega
   ·rw [hpx]at HC
    have AI:=B5 hpx
    clear hpx
    go_wp2_with (first|(refine bF rfl _ _ rfl _ _ rfl _ HL.out ?_)|(refine HC.out.mono ?_;rintro e1 w1 ⟨rfl,hk1⟩;have tK:=B5 (HK.out.trans hk1 (fun _ h=>h.elim));clear hk1 HC HL))
    go_ret
    exact⟨by rw [idxI_at HP.out HX.out AI.out];rfl,tK.out⟩
  ·have hi:¬((j:Int)<(N:Int)):=by omega
   have he:mT p xs = -1:=ru (by have:=HP.out;rwa [List.take_of_length_le (by rw [HN.out];omega)]at this)
   have HE:=B5 he
   clear he
   go_wp2_with fail
   go_ret
   exact⟨by rw [HE.out];rfl,HK.out⟩
theorem gM {w:World}{v:Value}{xs:List (PredE)}{F:Nat}{caps:Array Value}(p:PredE→Bool)(hrd:Rd w 9 v xs.length (xs.flatMap PredE.cells))(HF:∀x∈xs,PredF F caps w (PredE.cells x) (p x)) :
  Calls Tryz.prog 88 #[v,.func (.func F) #[] caps] w fun e w'=>e = .returned (.bool (xs.any p))∧Kept (fun _=>False) w w':=by
 have H:=B5 (nA p hrd HF)
 rw [←rP]
 clear hrd HF
 generalize mT p xs=k at *
 go_enter Tryz.func88,Tryz.ntmps88
 go_wp2_with (go_at_call 104;refine H.out.mono ?_;rintro e1 w1 ⟨rfl,hk1⟩;have tK:=B5 hk1;clear hk1 H)
 go_ret
 exact⟨rfl,tK.out⟩
theorem sH {w:World}{v1 v2:Value}{l1 l2:List Val}(h1:er w v1 l1)(h2:er w v2 l2) :
  Calls Tryz.prog 42 #[v1,v2] w fun e w'=>e = .returned (.bool (decide (l1=l2)))∧∃n,w'=w.drewN n:=by
 obtain⟨_,m1,a1,c1,rfl,n1,_,_,g1⟩:=h1
 obtain⟨_,m2,a2,c2,rfl,n2,_,_,g2⟩:=h2
 unfold maxLen at m1 m2
 by_cases hlen:l1.length=l2.length
 ·rw [←hlen]at g2
  have G1:=B5 g1
  have G2:=B5 g2
  clear g1 g2
  generalize hL:l1.length=L at *
  rw [←hlen]
  go_enter Tryz.func42,Tryz.ntmps42
  go_wp2_with fail
  go_loopw [5] (fun i wr=>∃k:Nat,i = .int .i64 k∧k≤L∧l1.take k=l2.take k∧∃n,wr=w.drewN n) (fun i _=>L-(intOf i).toNat)
  case atStart=>exact⟨0,rfl,by omega,rfl,0,rfl⟩
  case round =>
   obtain⟨k,rfl,hk,ht,n0,rfl⟩:=hrel
   have HT:=B5 ht
   clear ht
   by_cases hlt:k<L
   ·obtain⟨a,ha⟩:∃a,l1[k]?=some a:=⟨l1[k]'(by omega),List.getElem?_eq_getElem (by omega)⟩
    obtain⟨b,hb⟩:∃b,l2[k]?=some b:=⟨l2[k]'(by omega),List.getElem?_eq_getElem (by omega)⟩
    rcases G1.out with h0|⟨b1,o1,rfl,hc1⟩
    ·omega
    rcases G2.out with h0|⟨b2,o2,rfl,hc2⟩
    ·omega
    have x0:=hc1 _ _ (br Val.len l1 k a ha 0 _ rfl)
    have x1:=hc1 _ _ (br Val.len l1 k a ha 1 _ rfl)
    have x2:=hc1 _ _ (br Val.len l1 k a ha 2 _ rfl)
    have y0:=hc2 _ _ (br Val.len l2 k b hb 0 _ rfl)
    have y1:=hc2 _ _ (br Val.len l2 k b hb 1 _ rfl)
    have y2:=hc2 _ _ (br Val.len l2 k b hb 2 _ rfl)
    rw [Nat.add_zero]at x0 y0
    rw [←Nat.add_assoc]at x1 x2 y1 y2
    have HA:=B5 ha
    have HB:=B5 hb
    clear ha hb hc1 hc2
    by_cases hab:a=b
    ·subst hab
     go_wp2_with fail
     go_quiet (fail)
     go_wp2_with fail
     go_roundw
     case rel=>exact⟨k+1,by go_num,by omega,iV HT.out HA.out HB.out,_,rfl⟩
     case measure=>simp [intOf];omega
    ·have hv:ep a.t a.n a.s b.t b.n b.s=false:=by rw [pJ];exact decide_eq_false hab
     have hne:decide (l1=l2)=false:=decide_eq_false (fun e=>by
      have h1:=HA.out
      have h2:=HB.out
      rw [e,h2]at h1
      exact hab (Option.some.inj h1).symm)
     have wi:=B5 hne
     clear hne
     go_wp2_with fail
     go_quiet (fail)
     go_wp2_with fail
     go_ret
     exact⟨by rw [wi.out];rfl,_,World.drewN_drewN _ _ _⟩
   ·have heq:decide (l1=l2)=true:=decide_eq_true (jD HT.out (by omega) (by omega))
    have AJ:=B5 heq
    clear heq
    go_wp2_with fail
    go_ret
    exact⟨by rw [AJ.out];rfl,n0,rfl⟩
 ·have hne:decide (l1=l2)=false:=decide_eq_false (fun e=>hlen (by rw [e]))
  have hbe:((l1.length:Int) == (l2.length:Int))=false:=by simp;omega
  have wi:=B5 hne
  clear hne g1 g2
  go_enter Tryz.func42,Tryz.ntmps42
  go_wp2_with fail
  go_ret
  exact⟨by rw [wi.out];rfl,0,rfl⟩
theorem iH {w:World}{g o N cap h:Nat}{r:List Val}{x:Val}(hrd:Rd w 3 (.slice (some ⟨g,o,none⟩) N cap) N (r.flatMap Val.cells))(hx:r[h]?=some x) :
  w.cell? ⟨g,o+h*3,none⟩=some (.bool x.t)∧w.cell? ⟨g,o+h*3+1,none⟩=some (.int .i64 x.n)∧w.cell? ⟨g,o+h*3+2,none⟩=some (.string x.s):=by
 have hlt:=(List.getElem?_eq_some_iff.1 hx).1
 rcases hrd.2.2 with ⟨_,_,hv,_,_,_,hcell⟩
 cases hv
 rcases hcell with h0|⟨_,_,hg,hc⟩
 ·have:=hrd.1
  rw [cj Val.len]at this
  omega
 cases hg
 have a0:=hc _ _ (br Val.len r h _ hx 0 _ rfl)
 have a1:=hc _ _ (br Val.len r h _ hx 1 _ rfl)
 have a2:=hc _ _ (br Val.len r h _ hx 2 _ rfl)
 rw [Nat.add_zero]at a0
 rw [←Nat.add_assoc]at a1 a2
 exact⟨a0,a1,a2⟩
theorem th {w:World}(x:PredE){rv:Value}{r:List Val}(hr:er w rv r):Calls Tryz.prog 87 #[.agg x.cells.toArray,rv] w fun e w'=>e = .returned (.bool (gc x.op x.col x.v x.w r))∧Kept (fun _=>False) w w':=by
 obtain⟨W1,hW1,hk1,hb1⟩:∃W,W=w.alloc (.cells x.cells.toArray tPr)∧Kept (fun _=>False) w W∧W.heap[w.heap.size]?=some (.cells x.cells.toArray tPr (0,0)):=⟨_,rfl,(Kept.refl _ _).alloc _,au _ _⟩
 have tM:=B5 (hr.kept hk1 (fun _ _ h=>h))
 obtain⟨_,hml,ra,rc,rfl,hnc,hcm,_⟩:=id hr
 unfold maxLen at hml hcm
 have tE:=B5 hW1
 have tK:=B5 hk1
 have tF:=B5 hb1
 clear hr hW1 hk1 hb1
 by_cases c1:x.col<0
 ·have HR:=B5 (show gc x.op x.col x.v x.w r=false by unfold gc;rw [if_pos (.inl c1)])
  go_enter Tryz.func87,Tryz.ntmps87
  go_upto_region 1 with fail
  rw [←tE.out]
  clear tE
  generalize w.heap.size=b1 at tF ⊢
  obtain⟨x0,x1,x2,x3,x4,x5,x6,x7,x8⟩:=be tF.out
  go_wp2_with fail
  go_ret
  exact⟨by rw [HR.out];rfl,tK.out⟩
 by_cases c2:(r.length:Int)≤x.col
 ·have HR:=B5 (show gc x.op x.col x.v x.w r=false by unfold gc;rw [if_pos (.inr c2)])
  have c2':x.col ≥ (r.length:Int):=c2
  go_enter Tryz.func87,Tryz.ntmps87
  go_upto_region 1 with fail
  rw [←tE.out]
  clear tE
  generalize w.heap.size=b1 at tF ⊢
  obtain⟨x0,x1,x2,x3,x4,x5,x6,x7,x8⟩:=be tF.out
  go_wp2_with fail
  go_ret
  exact⟨by rw [HR.out];rfl,tK.out⟩
 obtain⟨k,hk⟩:∃k:Nat,x.col=(k:Int):=⟨x.col.toNat,by omega⟩
 have hkl:k<r.length:=by omega
 have hkl2:(k:Int)<(r.length:Int):=by omega
 have hkn:¬((k:Int) ≥ (r.length:Int)):=by omega
 obtain⟨y,hy⟩:∃y,r[k]?=some y:=⟨r[k],List.getElem?_eq_getElem hkl⟩
 obtain⟨g,og,rfl⟩:∃g o,ra=some ⟨g,o,none⟩:=by
  rcases tM.out.2.2 with ⟨_,_,hv,_,_,_,hc⟩
  cases hv
  rcases hc with h0|⟨g,o,h,_⟩
  ·omega
  ·exact⟨g,o,h⟩
 have uM:=B5 hk
 have HY:=B5 hy
 obtain⟨c,hc⟩:∃c,aj y x.v=c:=⟨_,rfl⟩
 have xr:=B5 hc
 have uj:=B5 (show gc x.op x.col x.v x.w r=(if x.op=3 then decide (c=0)else if x.op=4 then !decide (c=0)else if x.op=5 then decide (c<0)else if x.op=6 then decide (c≤0)else if x.op=7 then decide (0<c)else if x.op=8 then decide (0≤c)else decide (0≤c)&&decide (aj y x.w≤0)) by
  unfold gc
  rw [if_neg (by omega)]
  have:r.getD x.col.toNat default=y:=by rw [hk,Int.toNat_natCast,List.getD_eq_getElem?_getD,hy];rfl
  simp only [this,hc])
 clear c1 c2 hk hy hc hkl
 by_cases p3:x.op=3
 ·have HO:=B5 p3
  clear p3
  go_enter Tryz.func87,Tryz.ntmps87
  go_upto_region 1 with fail
  rw [←tE.out]
  clear tE
  generalize w.heap.size=b1 at tF ⊢
  obtain⟨x0,x1,x2,x3,x4,x5,x6,x7,x8⟩:=be tF.out
  rw [uM.out]at x1
  obtain⟨y0,y1,y2⟩:=iH tM.out HY.out
  go_upto_region 3 with fail
  have tZ:=B5 (bO y x.v W1.drew)
  rw [xr.out]at tZ
  refine af [(0,false,7),(1,false,7),(2,false,7),(3,false,7),(4,false,7),(5,false,7),(6,false,7),(7,true,0),(8,false,999)] (by kernel_rfl) (by kernel_rfl) ?_
  iterate 7 (refine ae rfl rfl (fun K hK=>?_);go_simp;refine hK _ ?_;clear hK K)
  refine ah rfl ?_
  refine aq rfl (fun K hK=>?_)
  go_simp
  refine tZ.out.mono ?_
  rintro e2 w2 ⟨rfl,hk2⟩
  have tX:=B5 (tK.out.drew.trans hk2 (fun _ h=>h.elim))
  have tG:=B5 ((hk2.block b1 (ax (by exact tF.out:W1.drew.heap[b1]?=_)) (fun h=>h)).trans tF.out)
  have vQ:=B5 (tM.out.drew.kept hk2 (fun _ _ h=>h))
  clear hk2 tZ x0 x1 x2 x3 x4 x5 x6 x7 x8 y0 y1 y2
  obtain⟨x0,x1,x2,x3,x4,x5,x6,x7,x8⟩:=be tG.out
  rw [uM.out]at x1
  refine hK _ _ ?_
  clear hK K
  refine wpList_nil ?_
  refine And.intro ?_ ?_
  ·go_simp
  refine ae rfl rfl (fun K hK=>?_);go_simp;refine hK _ ?_;clear hK K
  refine ai ?_
  rw [HO.out]at x0
  go_wp2_with fail
  go_ret
  exact⟨by rw [uj.out,HO.out];simp [bne,Int.not_lt,beq_iff_eq];try rfl,tX.out⟩
 by_cases p4:x.op=4
 ·have HO:=B5 p4
  clear p3 p4
  go_enter Tryz.func87,Tryz.ntmps87
  go_upto_region 1 with fail
  rw [←tE.out]
  clear tE
  generalize w.heap.size=b1 at tF ⊢
  obtain⟨x0,x1,x2,x3,x4,x5,x6,x7,x8⟩:=be tF.out
  rw [uM.out]at x1
  obtain⟨y0,y1,y2⟩:=iH tM.out HY.out
  go_upto_region 3 with fail
  have tZ:=B5 (bO y x.v W1.drew)
  rw [xr.out]at tZ
  refine af [(0,false,7),(1,false,7),(2,false,7),(3,false,7),(4,false,7),(5,false,7),(6,false,7),(7,true,0),(8,false,999)] (by kernel_rfl) (by kernel_rfl) ?_
  iterate 7 (refine ae rfl rfl (fun K hK=>?_);go_simp;refine hK _ ?_;clear hK K)
  refine ah rfl ?_
  refine aq rfl (fun K hK=>?_)
  go_simp
  refine tZ.out.mono ?_
  rintro e2 w2 ⟨rfl,hk2⟩
  have tX:=B5 (tK.out.drew.trans hk2 (fun _ h=>h.elim))
  have tG:=B5 ((hk2.block b1 (ax (by exact tF.out:W1.drew.heap[b1]?=_)) (fun h=>h)).trans tF.out)
  have vQ:=B5 (tM.out.drew.kept hk2 (fun _ _ h=>h))
  clear hk2 tZ x0 x1 x2 x3 x4 x5 x6 x7 x8 y0 y1 y2
  obtain⟨x0,x1,x2,x3,x4,x5,x6,x7,x8⟩:=be tG.out
  rw [uM.out]at x1
  refine hK _ _ ?_
  clear hK K
  refine wpList_nil ?_
  refine And.intro ?_ ?_
  ·go_simp
  refine ae rfl rfl (fun K hK=>?_);go_simp;refine hK _ ?_;clear hK K
  refine ai ?_
  rw [HO.out]at x0
  go_wp2_with fail
  go_ret
  exact⟨by rw [uj.out,HO.out];simp [bne,Int.not_lt,beq_iff_eq];try rfl,tX.out⟩
 by_cases p5:x.op=5
 ·have HO:=B5 p5
  clear p3 p4 p5
  go_enter Tryz.func87,Tryz.ntmps87
  go_upto_region 1 with fail
  rw [←tE.out]
  clear tE
  generalize w.heap.size=b1 at tF ⊢
  obtain⟨x0,x1,x2,x3,x4,x5,x6,x7,x8⟩:=be tF.out
  rw [uM.out]at x1
  obtain⟨y0,y1,y2⟩:=iH tM.out HY.out
  go_upto_region 3 with fail
  have tZ:=B5 (bO y x.v W1.drew)
  rw [xr.out]at tZ
  refine af [(0,false,7),(1,false,7),(2,false,7),(3,false,7),(4,false,7),(5,false,7),(6,false,7),(7,true,0),(8,false,999)] (by kernel_rfl) (by kernel_rfl) ?_
  iterate 7 (refine ae rfl rfl (fun K hK=>?_);go_simp;refine hK _ ?_;clear hK K)
  refine ah rfl ?_
  refine aq rfl (fun K hK=>?_)
  go_simp
  refine tZ.out.mono ?_
  rintro e2 w2 ⟨rfl,hk2⟩
  have tX:=B5 (tK.out.drew.trans hk2 (fun _ h=>h.elim))
  have tG:=B5 ((hk2.block b1 (ax (by exact tF.out:W1.drew.heap[b1]?=_)) (fun h=>h)).trans tF.out)
  have vQ:=B5 (tM.out.drew.kept hk2 (fun _ _ h=>h))
  clear hk2 tZ x0 x1 x2 x3 x4 x5 x6 x7 x8 y0 y1 y2
  obtain⟨x0,x1,x2,x3,x4,x5,x6,x7,x8⟩:=be tG.out
  rw [uM.out]at x1
  refine hK _ _ ?_
  clear hK K
  refine wpList_nil ?_
  refine And.intro ?_ ?_
  ·go_simp
  refine ae rfl rfl (fun K hK=>?_);go_simp;refine hK _ ?_;clear hK K
  refine ai ?_
  rw [HO.out]at x0
  go_wp2_with fail
  go_ret
  exact⟨by rw [uj.out,HO.out];simp [bne,Int.not_lt,beq_iff_eq];try rfl,tX.out⟩
 by_cases p6:x.op=6
 ·have HO:=B5 p6
  clear p3 p4 p5 p6
  go_enter Tryz.func87,Tryz.ntmps87
  go_upto_region 1 with fail
  rw [←tE.out]
  clear tE
  generalize w.heap.size=b1 at tF ⊢
  obtain⟨x0,x1,x2,x3,x4,x5,x6,x7,x8⟩:=be tF.out
  rw [uM.out]at x1
  obtain⟨y0,y1,y2⟩:=iH tM.out HY.out
  go_upto_region 3 with fail
  have tZ:=B5 (bO y x.v W1.drew)
  rw [xr.out]at tZ
  refine af [(0,false,7),(1,false,7),(2,false,7),(3,false,7),(4,false,7),(5,false,7),(6,false,7),(7,true,0),(8,false,999)] (by kernel_rfl) (by kernel_rfl) ?_
  iterate 7 (refine ae rfl rfl (fun K hK=>?_);go_simp;refine hK _ ?_;clear hK K)
  refine ah rfl ?_
  refine aq rfl (fun K hK=>?_)
  go_simp
  refine tZ.out.mono ?_
  rintro e2 w2 ⟨rfl,hk2⟩
  have tX:=B5 (tK.out.drew.trans hk2 (fun _ h=>h.elim))
  have tG:=B5 ((hk2.block b1 (ax (by exact tF.out:W1.drew.heap[b1]?=_)) (fun h=>h)).trans tF.out)
  have vQ:=B5 (tM.out.drew.kept hk2 (fun _ _ h=>h))
  clear hk2 tZ x0 x1 x2 x3 x4 x5 x6 x7 x8 y0 y1 y2
  obtain⟨x0,x1,x2,x3,x4,x5,x6,x7,x8⟩:=be tG.out
  rw [uM.out]at x1
  refine hK _ _ ?_
  clear hK K
  refine wpList_nil ?_
  refine And.intro ?_ ?_
  ·go_simp
  refine ae rfl rfl (fun K hK=>?_);go_simp;refine hK _ ?_;clear hK K
  refine ai ?_
  rw [HO.out]at x0
  go_wp2_with fail
  go_ret
  exact⟨by rw [uj.out,HO.out];simp [bne,Int.not_lt,beq_iff_eq];try rfl,tX.out⟩
 by_cases p7:x.op=7
 ·have HO:=B5 p7
  clear p3 p4 p5 p6 p7
  go_enter Tryz.func87,Tryz.ntmps87
  go_upto_region 1 with fail
  rw [←tE.out]
  clear tE
  generalize w.heap.size=b1 at tF ⊢
  obtain⟨x0,x1,x2,x3,x4,x5,x6,x7,x8⟩:=be tF.out
  rw [uM.out]at x1
  obtain⟨y0,y1,y2⟩:=iH tM.out HY.out
  go_upto_region 3 with fail
  have tZ:=B5 (bO y x.v W1.drew)
  rw [xr.out]at tZ
  refine af [(0,false,7),(1,false,7),(2,false,7),(3,false,7),(4,false,7),(5,false,7),(6,false,7),(7,true,0),(8,false,999)] (by kernel_rfl) (by kernel_rfl) ?_
  iterate 7 (refine ae rfl rfl (fun K hK=>?_);go_simp;refine hK _ ?_;clear hK K)
  refine ah rfl ?_
  refine aq rfl (fun K hK=>?_)
  go_simp
  refine tZ.out.mono ?_
  rintro e2 w2 ⟨rfl,hk2⟩
  have tX:=B5 (tK.out.drew.trans hk2 (fun _ h=>h.elim))
  have tG:=B5 ((hk2.block b1 (ax (by exact tF.out:W1.drew.heap[b1]?=_)) (fun h=>h)).trans tF.out)
  have vQ:=B5 (tM.out.drew.kept hk2 (fun _ _ h=>h))
  clear hk2 tZ x0 x1 x2 x3 x4 x5 x6 x7 x8 y0 y1 y2
  obtain⟨x0,x1,x2,x3,x4,x5,x6,x7,x8⟩:=be tG.out
  rw [uM.out]at x1
  refine hK _ _ ?_
  clear hK K
  refine wpList_nil ?_
  refine And.intro ?_ ?_
  ·go_simp
  refine ae rfl rfl (fun K hK=>?_);go_simp;refine hK _ ?_;clear hK K
  refine ai ?_
  rw [HO.out]at x0
  go_wp2_with fail
  go_ret
  exact⟨by rw [uj.out,HO.out];simp [bne,Int.not_lt,beq_iff_eq];try rfl,tX.out⟩
 by_cases p8:x.op=8
 ·have HO:=B5 p8
  clear p3 p4 p5 p6 p7 p8
  go_enter Tryz.func87,Tryz.ntmps87
  go_upto_region 1 with fail
  rw [←tE.out]
  clear tE
  generalize w.heap.size=b1 at tF ⊢
  obtain⟨x0,x1,x2,x3,x4,x5,x6,x7,x8⟩:=be tF.out
  rw [uM.out]at x1
  obtain⟨y0,y1,y2⟩:=iH tM.out HY.out
  go_upto_region 3 with fail
  have tZ:=B5 (bO y x.v W1.drew)
  rw [xr.out]at tZ
  refine af [(0,false,7),(1,false,7),(2,false,7),(3,false,7),(4,false,7),(5,false,7),(6,false,7),(7,true,0),(8,false,999)] (by kernel_rfl) (by kernel_rfl) ?_
  iterate 7 (refine ae rfl rfl (fun K hK=>?_);go_simp;refine hK _ ?_;clear hK K)
  refine ah rfl ?_
  refine aq rfl (fun K hK=>?_)
  go_simp
  refine tZ.out.mono ?_
  rintro e2 w2 ⟨rfl,hk2⟩
  have tX:=B5 (tK.out.drew.trans hk2 (fun _ h=>h.elim))
  have tG:=B5 ((hk2.block b1 (ax (by exact tF.out:W1.drew.heap[b1]?=_)) (fun h=>h)).trans tF.out)
  have vQ:=B5 (tM.out.drew.kept hk2 (fun _ _ h=>h))
  clear hk2 tZ x0 x1 x2 x3 x4 x5 x6 x7 x8 y0 y1 y2
  obtain⟨x0,x1,x2,x3,x4,x5,x6,x7,x8⟩:=be tG.out
  rw [uM.out]at x1
  refine hK _ _ ?_
  clear hK K
  refine wpList_nil ?_
  refine And.intro ?_ ?_
  ·go_simp
  refine ae rfl rfl (fun K hK=>?_);go_simp;refine hK _ ?_;clear hK K
  refine ai ?_
  rw [HO.out]at x0
  go_wp2_with fail
  go_ret
  exact⟨by rw [uj.out,HO.out];simp [bne,Int.not_lt,beq_iff_eq];try rfl,tX.out⟩
 have n3:(x.op == 3)=false:=by simpa using p3
 have n4:(x.op == 4)=false:=by simpa using p4
 have n5:(x.op == 5)=false:=by simpa using p5
 have n6:(x.op == 6)=false:=by simpa using p6
 have n7:(x.op == 7)=false:=by simpa using p7
 have n8:(x.op == 8)=false:=by simpa using p8
 have HR:=B5 (show gc x.op x.col x.v x.w r=(decide (0≤c)&&decide (aj y x.w≤0)) by rw [uj.out,if_neg p3,if_neg p4,if_neg p5,if_neg p6,if_neg p7,if_neg p8])
 clear p3 p4 p5 p6 p7 p8
 by_cases hc0:0≤c
 ·have hc1:c ≥ 0:=hc0
  go_enter Tryz.func87,Tryz.ntmps87
  go_upto_region 1 with fail
  rw [←tE.out]
  clear tE
  generalize w.heap.size=b1 at tF ⊢
  obtain⟨x0,x1,x2,x3,x4,x5,x6,x7,x8⟩:=be tF.out
  rw [uM.out]at x1
  obtain⟨y0,y1,y2⟩:=iH tM.out HY.out
  go_upto_region 3 with fail
  have tZ:=B5 (bO y x.v W1.drew)
  rw [xr.out]at tZ
  refine af [(0,false,7),(1,false,7),(2,false,7),(3,false,7),(4,false,7),(5,false,7),(6,false,7),(7,true,0),(8,false,999)] (by kernel_rfl) (by kernel_rfl) ?_
  iterate 7 (refine ae rfl rfl (fun K hK=>?_);go_simp;refine hK _ ?_;clear hK K)
  refine ah rfl ?_
  refine aq rfl (fun K hK=>?_)
  go_simp
  refine tZ.out.mono ?_
  rintro e2 w2 ⟨rfl,hk2⟩
  have tX:=B5 (tK.out.drew.trans hk2 (fun _ h=>h.elim))
  have tG:=B5 ((hk2.block b1 (ax (by exact tF.out:W1.drew.heap[b1]?=_)) (fun h=>h)).trans tF.out)
  have vQ:=B5 (tM.out.drew.kept hk2 (fun _ _ h=>h))
  clear hk2 tZ x0 x1 x2 x3 x4 x5 x6 x7 x8 y0 y1 y2
  obtain⟨x0,x1,x2,x3,x4,x5,x6,x7,x8⟩:=be tG.out
  rw [uM.out]at x1
  refine hK _ _ ?_
  clear hK K
  refine wpList_nil ?_
  refine And.intro ?_ ?_
  ·go_simp
  refine ae rfl rfl (fun K hK=>?_);go_simp;refine hK _ ?_;clear hK K
  refine ai ?_
  obtain⟨y0,y1,y2⟩:=iH vQ.out HY.out
  go_upto_region 17 with fail
  obtain⟨d,hd⟩:∃d,aj y x.w=d:=⟨_,rfl⟩
  have Be:=B5 hd
  have yw:=B5 (bO y x.w w2.drew)
  rw [Be.out]at yw
  clear hd
  refine af [(0,false,10),(1,false,10),(2,false,10),(3,false,10),(4,false,10),(5,false,10),(6,false,10),(7,false,10),(8,false,10),(9,false,10),(10,true,0),(11,false,999),(12,false,999),(13,false,999)] (by kernel_rfl) (by kernel_rfl) ?_
  iterate 3 (refine ae rfl rfl (fun K hK=>?_);go_simp;refine hK _ ?_;clear hK K)
  iterate 7 (first|(refine aw rfl rfl ?_;simp only [Act.put,B6,B7,B8,B9,Ca,Cb])|(refine am rfl rfl (fun K hK=>?_);go_simp;refine hK _ ?_;clear hK K))
  refine ah rfl ?_
  refine aq rfl (fun K hK=>?_)
  go_simp
  refine yw.out.mono ?_
  rintro e3 w3 ⟨rfl,hk3⟩
  have wt:=B5 (tX.out.drew.trans hk3 (fun _ h=>h.elim))
  clear hk3 yw
  refine hK _ _ ?_
  clear hK K
  refine wpList_nil ?_
  refine And.intro ?_ ?_
  ·go_simp
  first|(refine aw rfl rfl ?_;simp only [Act.put,B6,B7,B8,B9,Ca,Cb])|(refine am rfl rfl (fun K hK=>?_);go_simp;refine hK _ ?_;clear hK K)
  iterate 2 (refine ae rfl rfl (fun K hK=>?_);go_simp;refine hK _ ?_;clear hK K)
  refine ai ?_
  go_wp2_with fail
  go_ret
  exact⟨by rw [HR.out,Be.out];simp [hc0],wt.out⟩
 ·have hc1:¬c ≥ 0:=hc0
  go_enter Tryz.func87,Tryz.ntmps87
  go_upto_region 1 with fail
  rw [←tE.out]
  clear tE
  generalize w.heap.size=b1 at tF ⊢
  obtain⟨x0,x1,x2,x3,x4,x5,x6,x7,x8⟩:=be tF.out
  rw [uM.out]at x1
  obtain⟨y0,y1,y2⟩:=iH tM.out HY.out
  go_upto_region 3 with fail
  have tZ:=B5 (bO y x.v W1.drew)
  rw [xr.out]at tZ
  refine af [(0,false,7),(1,false,7),(2,false,7),(3,false,7),(4,false,7),(5,false,7),(6,false,7),(7,true,0),(8,false,999)] (by kernel_rfl) (by kernel_rfl) ?_
  iterate 7 (refine ae rfl rfl (fun K hK=>?_);go_simp;refine hK _ ?_;clear hK K)
  refine ah rfl ?_
  refine aq rfl (fun K hK=>?_)
  go_simp
  refine tZ.out.mono ?_
  rintro e2 w2 ⟨rfl,hk2⟩
  have tX:=B5 (tK.out.drew.trans hk2 (fun _ h=>h.elim))
  have tG:=B5 ((hk2.block b1 (ax (by exact tF.out:W1.drew.heap[b1]?=_)) (fun h=>h)).trans tF.out)
  have vQ:=B5 (tM.out.drew.kept hk2 (fun _ _ h=>h))
  clear hk2 tZ x0 x1 x2 x3 x4 x5 x6 x7 x8 y0 y1 y2
  obtain⟨x0,x1,x2,x3,x4,x5,x6,x7,x8⟩:=be tG.out
  rw [uM.out]at x1
  refine hK _ _ ?_
  clear hK K
  refine wpList_nil ?_
  refine And.intro ?_ ?_
  ·go_simp
  refine ae rfl rfl (fun K hK=>?_);go_simp;refine hK _ ?_;clear hK K
  refine ai ?_
  go_upto_region 17 with fail
  refine af [(0,false,10),(1,false,10),(2,false,10),(3,false,10),(4,false,10),(5,false,10),(6,false,10),(7,false,10),(8,false,10),(9,false,10),(10,true,0),(11,false,999),(12,false,999),(13,false,999)] (by kernel_rfl) (by kernel_rfl) ?_
  iterate 3 (refine ae rfl rfl (fun K hK=>?_);go_simp;refine hK _ ?_;clear hK K)
  iterate 7 (first|(refine aw rfl rfl ?_;simp only [Act.put,B6,B7,B8,B9,Ca,Cb])|(refine am rfl rfl (fun K hK=>?_);go_simp;refine hK _ ?_;clear hK K))
  refine ah rfl ?_
  refine bV rfl ?_
  simp only [Act.put,B6,B7,B8]
  refine wpList_nil ?_
  refine And.intro ?_ ?_
  ·go_simp
  first|(refine aw rfl rfl ?_;simp only [Act.put,B6,B7,B8,B9,Ca,Cb])|(refine am rfl rfl (fun K hK=>?_);go_simp;refine hK _ ?_;clear hK K)
  iterate 2 (refine ae rfl rfl (fun K hK=>?_);go_simp;refine hK _ ?_;clear hK K)
  refine ai ?_
  go_wp2_with fail
  go_ret
  exact⟨by rw [HR.out,decide_eq_false (Int.not_le.mpr hc0)];rfl,tX.out.drew⟩
end Go.Proofs.YtdobimafhbfkhaaGreat
