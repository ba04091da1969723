/- Joined texts: What is taken back, as data. What put and out noted gives the tables back. IndexFunc, ContainsFunc over predicates. (printed by genq.py) Are two rows the same (ratlineref02.Same). Whether a part about a column holds (pred.leaf). -/
import Derived.Test.YtdobimafhbfkhaaGreatOT32
import Derived.Test.YtdobimafhbfkhaaGreatOT9
set_option maxHeartbeats 64000000
namespace Go.Proofs.YtdobimafhbfkhaaGreat
set_option linter.unusedSimpArgs false
def ltR (k:Val)(q:List Val):Bool:=decide (ak (aJ q) k<0)
def gtR (k:Val)(q:List Val):Bool:=decide (0<ak (aJ q) k)
def tD (r:List Val):Val×VT:=(aJ r,RowT.none)
theorem i8 (m:ay)(r:List Val):cF m r=m.filter (ltR (aJ r))++r::m.filter (gtR (aJ r)):=rfl
theorem jE {x:List Val}{m:ay}(h:bB (eM (x::m))):(∀y∈m,ak (aJ x) (aJ y)<0)∧bB (eM m):=by
 have h':(tD x::eM m).Pairwise (fun a b=>ak a.1 b.1<0):=h
 rw [List.pairwise_cons]at h'
 exact⟨fun y hy=>h'.1 (tD y) (List.mem_map_of_mem hy),h'.2⟩
theorem above {x:List Val}{m:ay}{k:Val}(h:∀y∈m,ak (aJ x) (aJ y)<0)(hx:ak k (aJ x)≤0):m.filter (ltR k) = []∧m.filter (gtR k)=m:=by
 have hk:∀y∈m,ak k (aJ y)<0:=fun y hy=>jG hx (h y hy)
 refine⟨List.filter_eq_nil_iff.2 fun y hy=>?_,List.filter_eq_self.2 fun y hy=>?_⟩
 ·have:=hk y hy
  have e:=dj k (aJ y)
  unfold ltR
  rw [decide_eq_true_eq]
  omega
 ·have:=hk y hy
  have e:=dj k (aJ y)
  unfold gtR
  rw [decide_eq_true_eq]
  omega
theorem kZ {k:Val}:∀ {m:ay},bB (eM m)→(∀q∈m,ak (aJ q) k≠0)→m.filter (ltR k)++m.filter (gtR k)=m
 | [],_,_=>rfl
 | x::m,hs,hn=>by
  obtain⟨h1,h2⟩:=jE hs
  have hx:=hn x (List.mem_cons_self ..)
  by_cases hlt:ak (aJ x) k<0
  ·have e1:ltR k x=true:=decide_eq_true hlt
   have e2:gtR k x=false:=decide_eq_false (by omega)
   rw [List.filter_cons,List.filter_cons,e1,e2]
   simp only [if_true,Bool.false_eq_true,if_false,List.cons_append]
   rw [kZ h2 (fun q hq=>hn q (List.mem_cons_of_mem _ hq))]
  ·have e1:ltR k x=false:=decide_eq_false hlt
   have e2:gtR k x=true:=decide_eq_true (by omega)
   obtain⟨g1,g2⟩:=above (k:=k) h1 (by have:=dj (aJ x) k;omega)
   rw [List.filter_cons,List.filter_cons,e1,e2,g1,g2]
   rfl
theorem iA {k:Val}{q:List Val}:∀ {m:ay},bB (eM m)→q∈m→ak (aJ q) k=0→m.filter (ltR k)++q::m.filter (gtR k)=m
 | x::m,hs,hq,h0=>by
  obtain⟨h1,h2⟩:=jE hs
  rcases List.mem_cons.1 hq with rfl|hq
  ·have e1:ltR k q=false:=decide_eq_false (by omega)
   have e2:gtR k q=false:=decide_eq_false (by omega)
   obtain⟨g1,g2⟩:=above (k:=k) h1 (by have:=dj (aJ q) k;omega)
   rw [List.filter_cons,List.filter_cons,e1,e2,g1,g2]
   rfl
  ·have hlt:ak (aJ x) k<0:=i5 (h1 q hq) (by omega)
   have e1:ltR k x=true:=decide_eq_true hlt
   have e2:gtR k x=false:=decide_eq_false (by omega)
   rw [List.filter_cons,List.filter_cons,e1,e2]
   simp only [if_true,Bool.false_eq_true,if_false,List.cons_append]
   rw [iA h2 hq h0]
theorem mn (k:Val)(y:List Val):(ltR k y&&gtR k y)=false:=by
 unfold ltR gtR
 rw [Bool.and_eq_false_iff,decide_eq_false_iff_not,decide_eq_false_iff_not]
 omega
theorem qs (m:ay):m.filter (fun _=>false) = []:=List.filter_eq_nil_iff.2 (fun _ _=>by simp)
theorem filt_lt (m:ay)(r:List Val):(cF m r).filter (ltR (aJ r))=m.filter (ltR (aJ r)):=by
 have e1:ltR (aJ r) r=false:=decide_eq_false (by rw [cV];omega)
 rw [i8,List.filter_append,List.filter_cons,e1,List.filter_filter,List.filter_filter]
 simp only [Bool.false_eq_true,if_false,mn,Bool.and_self,qs,List.append_nil]
theorem filt_gt (m:ay)(r:List Val):(cF m r).filter (gtR (aJ r))=m.filter (gtR (aJ r)):=by
 have e1:gtR (aJ r) r=false:=decide_eq_false (by rw [cV];omega)
 rw [i8,List.filter_append,List.filter_cons,e1,List.filter_filter,List.filter_filter]
 simp only [Bool.false_eq_true,if_false,Bool.and_comm (gtR _ _),mn,Bool.and_self,qs,List.nil_append]
theorem put_put {c:List Bool}{m:ay}(h:TabI c m){r q:List Val}(hq:q∈m)(hk:aJ q=aJ r):cF (cF m r) q=m:=by
 rw [i8 (cF m r) q,hk,filt_lt,filt_gt]
 exact iA h.sorted hq (by rw [hk];exact cV _)
theorem del_put {c:List Bool}{m:ay}(h:TabI c m){r:List Val}(hr:bw c r=true)(hno:aY m (aJ r)=none):dx (cF m r) (aJ r)=m:=by
 have hk:am (aJ r)=true:=by obtain⟨k,_,e,hk,_⟩:=dU hr;rw [e];exact hk
 have hne:∀q∈m,ak (aJ q) (aJ r)≠0:=fun q hq h0=>by
  have e:=jm (h.keys q hq) hk h0
  have:=eN.2 ⟨q,hq,e⟩
  rw [hno]at this
  cases this
 unfold dx
 rw [i8,List.filter_append,List.filter_cons]
 have e1:(!decide (ak (aJ r) (aJ r)=0))=false:=by rw [cV];rfl
 rw [e1]
 simp only [Bool.false_eq_true,if_false]
 have f1:∀p:List Val→Bool,(m.filter p).filter (fun q=>!decide (ak (aJ q) (aJ r)=0))=m.filter p:=fun p=>List.filter_eq_self.2 (fun q hq=>by simpa using hne q (List.mem_filter.1 hq).1)
 rw [f1,f1]
 exact kZ h.sorted hne
theorem oH (m:ay)(k:Val):(dx m k).filter (ltR k)=m.filter (ltR k)∧(dx m k).filter (gtR k)=m.filter (gtR k):=by
 unfold dx
 rw [List.filter_filter,List.filter_filter]
 refine⟨List.filter_congr fun q _=>?_,List.filter_congr fun q _=>?_⟩
 ·unfold ltR
  by_cases h:ak (aJ q) k<0
  ·rw [decide_eq_true h,decide_eq_false (show ¬ak (aJ q) k=0 by omega)];rfl
  ·rw [decide_eq_false h];rfl
 ·unfold gtR
  by_cases h:0<ak (aJ q) k
  ·rw [decide_eq_true h,decide_eq_false (show ¬ak (aJ q) k=0 by omega)];rfl
  ·rw [decide_eq_false h];rfl
theorem put_del {c:List Bool}{m:ay}(h:TabI c m){q:List Val}(hq:q∈m):cF (dx m (aJ q)) q=m:=by
 rw [i8,(oH m (aJ q)).1,(oH m (aJ q)).2]
 exact iA h.sorted hq (cV _)
theorem rY {α:Type}{l:List α}{i:Nat}{a:α}(h:l[i]?=some a)(b:α):(l.set i b).set i a=l:=by
 rw [List.set_set]
 refine List.ext_getElem? fun j=>?_
 by_cases hj:i=j
 ·subst hj
  rw [List.getElem?_set_self (List.getElem?_eq_some_iff.1 h).1,h]
 ·rw [List.getElem?_set_ne hj]
theorem mR {c:List Bool}{r:List Val}(h:bw c r=true):r.isEmpty=false:=by
 obtain⟨k,h0,_⟩:=dU h
 cases r with
 | nil=>cases h0
 | cons a r=>rfl
theorem mZ {T:List ay}{i:Nat}{m m':ay}(hm:T[i]?=some m){k:Val}{q:List Val}(h:(if q.isEmpty then dx m' k else cF m' q)=m):gC (T.set i m') ⟨(i:Int),k,q⟩=T:=by
 have hlt:=(List.getElem?_eq_some_iff.1 hm).1
 unfold gC
 simp only [Int.toNat_natCast]
 rw [List.getD_eq_getElem?_getD,List.getElem?_set_self hlt,Option.getD_some,h]
 exact rY hm m'
theorem td {T:List ay}{i:Nat}{c:List Bool}{m:ay}{r:List Val}(hm:T[i]?=some m)(hI:TabI c m)(hr:bw c r=true):gC (T.set i (cF m r)) ⟨(i:Int),aJ r,(aY m (aJ r)).getD []⟩=T:=by
 refine mZ hm ?_
 cases hf:aY m (aJ r)with
 | none=>exact del_put hI hr hf
 | some q =>
  obtain⟨hq,hk⟩:=dQ hf
  rw [Option.getD_some,mR (hI.fits q hq)]
  exact put_put hI hq hk
theorem tP {T:List ay}{i:Nat}{c:List Bool}{m:ay}{k:Val}(hm:T[i]?=some m)(hI:TabI c m)(hf:(aY m k).isSome=true):gC (T.set i (dx m k)) ⟨(i:Int),k,(aY m k).getD []⟩=T:=by
 refine mZ hm ?_
 cases hq:aY m k with
 | none=>rw [hq]at hf;cases hf
 | some q =>
  obtain⟨h1,h2⟩:=dQ hq
  rw [Option.getD_some,mR (hI.fits q h1),←h2]
  exact put_del hI h1
def Well (cols:List (List Bool))(T:List ay):Prop:=T.length=cols.length∧∀(i:Nat) (c:List Bool) (m:ay),cols[i]?=some c→T[i]?=some m→TabI c m∧m.length≤200
def BefI (cols:List (List Bool))(b:BefM):Prop:=∃(i:Nat) (c:List Bool),b.table=(i:Int)∧cols[i]?=some c∧am b.key=true∧(b.r = []∨(bw c b.r=true∧bR b.r∧aJ b.r=b.key))
inductive LogI (cols:List (List Bool)):List ay→List BefM→Prop where
 | nil {T:List ay} (h:Well cols T):LogI cols T []
 | cons {T:List ay} {b:BefM} {l:List BefM} (h:Well cols T) (hb:BefI cols b) (t:LogI cols (gC T b) l):LogI cols T (b::l)
theorem LogI.well {cols:List (List Bool)}{T:List ay}{l:List BefM}(h:LogI cols T l):Well cols T:=by cases h<;>assumption
end Go.Proofs.YtdobimafhbfkhaaGreat
namespace Go.Proofs.YtdobimafhbfkhaaGreat
open Go.ChangeShapes Go.WideShapes Go.ChangeAt Go.RowKit
set_option maxRecDepth 100000
set_option linter.unusedSimpArgs false
theorem nJ {w:World}{v:Value}{xs:List (PredE)}{F:Nat}{caps:Array Value}(p:PredE→Bool)(hrd:Rd w 9 v xs.length (xs.flatMap PredE.cells))(HF:∀x∈xs,PredF F caps w (PredE.cells x) (p x)) :
  Calls Tryz.prog 104 #[v,.func (.func F) #[] caps] w fun e w'=>e = .returned (.int .i64 (nt p xs))∧Kept (fun _=>False) w w':=by
 obtain⟨_,hml,ao,cap,rfl,hnc,hcm,_⟩:=id hrd
 unfold maxLen at hml hcm
 have uw:=CM hrd
 have vO:=CM HF
 clear hrd HF
 obtain⟨N,hN⟩:∃N,xs.length=N:=⟨_,rfl⟩
 have HN:=CM hN
 rw [hN]at uw hml hnc ⊢
 clear hN
 go_enter Tryz.func104,Tryz.ntmps104
 go_wp2_with fail
 go_loopw [8] (fun i wr=>∃j:Nat,i = .int .i64 j∧j≤N∧(∀x∈xs.take j,p x=false)∧Kept (fun _=>False) w wr) (fun i _=>N-(intOf i).toNat)
 case atStart=>exact⟨0,rfl,by omega,fun x hx=>by simp at hx,Kept.refl _ _⟩
 case round =>
  obtain⟨j,rfl,hj,hp,hk⟩:=hrel
  have HP:=CM hp
  have HK:=CM hk
  clear hp hk
  by_cases hlt:j<N
  ·have hi:(j:Int)<(N:Int):=by omega
   obtain⟨x,hx⟩:∃x,xs[j]?=some x:=⟨xs[j]'(by rw [HN.out];exact hlt),List.getElem?_eq_getElem _⟩
   obtain⟨g,o,rfl,hrng⟩:=bK PredE.len (uw.out.kept HK.out (fun _ _ h=>h)) hx HN.out
   have HL:=CM (dp hrng)
   have HX:=CM hx
   obtain⟨hent,hcall⟩:=vO.out x (List.mem_of_getElem? hx)
   unfold Enters at hent
   have HC:=CM (hcall wr HK.out)
   clear hx hrng hcall
   cases hpx:p x
   ·rw [hpx]at HC
    have Br:=CM hpx
    clear hpx
    go_wp2_with (first|(refine bG rfl _ _ rfl _ _ rfl _ HL.out ?_)|(refine HC.out.mono ?_;rintro e1 w1 ⟨rfl,hk1⟩;have uq:=CM (HK.out.trans hk1 (fun _ h=>h.elim));clear hk1 HC HL))
    go_roundw
    case rel=>exact⟨j+1,by go_num,by omega,lJ HP.out HX.out Br.out,uq.out⟩
    case measure=>simp [intOf];omega
   ·rw [hpx]at HC
    have Br:=CM hpx
    clear hpx
    go_wp2_with (first|(refine bG rfl _ _ rfl _ _ rfl _ HL.out ?_)|(refine HC.out.mono ?_;rintro e1 w1 ⟨rfl,hk1⟩;have uq:=CM (HK.out.trans hk1 (fun _ h=>h.elim));clear hk1 HC HL))
    go_ret
    exact⟨by rw [idxI_at HP.out HX.out Br.out];rfl,uq.out⟩
  ·have hi:¬((j:Int)<(N:Int)):=by omega
   have he:nt p xs = -1:=rj (by have:=HP.out;rwa [List.take_of_length_le (by rw [HN.out];omega)]at this)
   have HE:=CM he
   clear he
   go_wp2_with fail
   go_ret
   exact⟨by rw [HE.out];rfl,HK.out⟩
theorem gt {w:World}{v:Value}{xs:List (PredE)}{F:Nat}{caps:Array Value}(p:PredE→Bool)(hrd:Rd w 9 v xs.length (xs.flatMap PredE.cells))(HF:∀x∈xs,PredF F caps w (PredE.cells x) (p x)) :
  Calls Tryz.prog 88 #[v,.func (.func F) #[] caps] w fun e w'=>e = .returned (.bool (xs.any p))∧Kept (fun _=>False) w w':=by
 have H:=CM (nJ p hrd HF)
 rw [←tB]
 clear hrd HF
 generalize nt p xs=k at *
 go_enter Tryz.func88,Tryz.ntmps88
 go_wp2_with (go_at_call 104;refine H.out.mono ?_;rintro e1 w1 ⟨rfl,hk1⟩;have uq:=CM hk1;clear hk1 H)
 go_ret
 exact⟨rfl,uq.out⟩
theorem tF {w:World}{v1 v2:Value}{l1 l2:List Val}(h1:eh w v1 l1)(h2:eh w v2 l2) :
  Calls Tryz.prog 42 #[v1,v2] w fun e w'=>e = .returned (.bool (decide (l1=l2)))∧∃n,w'=w.drewN n:=by
 obtain⟨_,m1,a1,c1,rfl,n1,_,_,g1⟩:=h1
 obtain⟨_,m2,a2,c2,rfl,n2,_,_,g2⟩:=h2
 unfold maxLen at m1 m2
 by_cases hlen:l1.length=l2.length
 ·rw [←hlen]at g2
  have G1:=CM g1
  have G2:=CM g2
  clear g1 g2
  generalize hL:l1.length=L at *
  rw [←hlen]
  go_enter Tryz.func42,Tryz.ntmps42
  go_wp2_with fail
  go_loopw [5] (fun i wr=>∃k:Nat,i = .int .i64 k∧k≤L∧l1.take k=l2.take k∧∃n,wr=w.drewN n) (fun i _=>L-(intOf i).toNat)
  case atStart=>exact⟨0,rfl,by omega,rfl,0,rfl⟩
  case round =>
   obtain⟨k,rfl,hk,ht,n0,rfl⟩:=hrel
   have HT:=CM ht
   clear ht
   by_cases hlt:k<L
   ·obtain⟨a,ha⟩:∃a,l1[k]?=some a:=⟨l1[k]'(by omega),List.getElem?_eq_getElem (by omega)⟩
    obtain⟨b,hb⟩:∃b,l2[k]?=some b:=⟨l2[k]'(by omega),List.getElem?_eq_getElem (by omega)⟩
    rcases G1.out with h0|⟨b1,o1,rfl,hc1⟩
    ·omega
    rcases G2.out with h0|⟨b2,o2,rfl,hc2⟩
    ·omega
    have x0:=hc1 _ _ (bH Val.len l1 k a ha 0 _ rfl)
    have x1:=hc1 _ _ (bH Val.len l1 k a ha 1 _ rfl)
    have x2:=hc1 _ _ (bH Val.len l1 k a ha 2 _ rfl)
    have y0:=hc2 _ _ (bH Val.len l2 k b hb 0 _ rfl)
    have y1:=hc2 _ _ (bH Val.len l2 k b hb 1 _ rfl)
    have y2:=hc2 _ _ (bH Val.len l2 k b hb 2 _ rfl)
    rw [Nat.add_zero]at x0 y0
    rw [←Nat.add_assoc]at x1 x2 y1 y2
    have HA:=CM ha
    have HB:=CM hb
    clear ha hb hc1 hc2
    by_cases hab:a=b
    ·subst hab
     go_wp2_with fail
     go_quiet (fail)
     go_wp2_with fail
     go_roundw
     case rel=>exact⟨k+1,by go_num,by omega,iR HT.out HA.out HB.out,_,rfl⟩
     case measure=>simp [intOf];omega
    ·have hv:eo a.t a.n a.s b.t b.n b.s=false:=by rw [pG];exact decide_eq_false hab
     have hne:decide (l1=l2)=false:=decide_eq_false (fun e=>by
      have h1:=HA.out
      have h2:=HB.out
      rw [e,h2]at h1
      exact hab (Option.some.inj h1).symm)
     have wl:=CM hne
     clear hne
     go_wp2_with fail
     go_quiet (fail)
     go_wp2_with fail
     go_ret
     exact⟨by rw [wl.out];rfl,_,World.drewN_drewN _ _ _⟩
   ·have heq:decide (l1=l2)=true:=decide_eq_true (jH HT.out (by omega) (by omega))
    have Bt:=CM heq
    clear heq
    go_wp2_with fail
    go_ret
    exact⟨by rw [Bt.out];rfl,n0,rfl⟩
 ·have hne:decide (l1=l2)=false:=decide_eq_false (fun e=>hlen (by rw [e]))
  have hbe:((l1.length:Int) == (l2.length:Int))=false:=by simp;omega
  have wl:=CM hne
  clear hne g1 g2
  go_enter Tryz.func42,Tryz.ntmps42
  go_wp2_with fail
  go_ret
  exact⟨by rw [wl.out];rfl,0,rfl⟩
theorem iW {w:World}{g o N cap h:Nat}{r:List Val}{x:Val}(hrd:Rd w 3 (.slice (some ⟨g,o,none⟩) N cap) N (r.flatMap Val.cells))(hx:r[h]?=some x) :
  w.cell? ⟨g,o+h*3,none⟩=some (.bool x.t)∧w.cell? ⟨g,o+h*3+1,none⟩=some (.int .i64 x.n)∧w.cell? ⟨g,o+h*3+2,none⟩=some (.string x.s):=by
 have hlt:=(List.getElem?_eq_some_iff.1 hx).1
 rcases hrd.2.2 with ⟨_,_,hv,_,_,_,hcell⟩
 cases hv
 rcases hcell with h0|⟨_,_,hg,hc⟩
 ·have:=hrd.1
  rw [cz Val.len]at this
  omega
 cases hg
 have a0:=hc _ _ (bH Val.len r h _ hx 0 _ rfl)
 have a1:=hc _ _ (bH Val.len r h _ hx 1 _ rfl)
 have a2:=hc _ _ (bH Val.len r h _ hx 2 _ rfl)
 rw [Nat.add_zero]at a0
 rw [←Nat.add_assoc]at a1 a2
 exact⟨a0,a1,a2⟩
theorem ub {w:World}(x:PredE){rv:Value}{r:List Val}(hr:eh w rv r):Calls Tryz.prog 87 #[.agg x.cells.toArray,rv] w fun e w'=>e = .returned (.bool (gg x.op x.col x.v x.w r))∧Kept (fun _=>False) w w':=by
 obtain⟨W1,hW1,hk1,hb1⟩:∃W,W=w.alloc (.cells x.cells.toArray tPr)∧Kept (fun _=>False) w W∧W.heap[w.heap.size]?=some (.cells x.cells.toArray tPr (0,0)):=⟨_,rfl,(Kept.refl _ _).alloc _,aw _ _⟩
 have uw:=CM (hr.kept hk1 (fun _ _ h=>h))
 obtain⟨_,hml,ra,rc,rfl,hnc,hcm,_⟩:=id hr
 unfold maxLen at hml hcm
 have ul:=CM hW1
 have uq:=CM hk1
 have um:=CM hb1
 clear hr hW1 hk1 hb1
 by_cases c1:x.col<0
 ·have HR:=CM (show gg x.op x.col x.v x.w r=false by unfold gg;rw [if_pos (.inl c1)])
  go_enter Tryz.func87,Tryz.ntmps87
  go_upto_region 1 with fail
  rw [←ul.out]
  clear ul
  generalize w.heap.size=b1 at um ⊢
  obtain⟨x0,x1,x2,x3,x4,x5,x6,x7,x8⟩:=bh um.out
  go_wp2_with fail
  go_ret
  exact⟨by rw [HR.out];rfl,uq.out⟩
 by_cases c2:(r.length:Int)≤x.col
 ·have HR:=CM (show gg x.op x.col x.v x.w r=false by unfold gg;rw [if_pos (.inr c2)])
  have c2':x.col ≥ (r.length:Int):=c2
  go_enter Tryz.func87,Tryz.ntmps87
  go_upto_region 1 with fail
  rw [←ul.out]
  clear ul
  generalize w.heap.size=b1 at um ⊢
  obtain⟨x0,x1,x2,x3,x4,x5,x6,x7,x8⟩:=bh um.out
  go_wp2_with fail
  go_ret
  exact⟨by rw [HR.out];rfl,uq.out⟩
 obtain⟨k,hk⟩:∃k:Nat,x.col=(k:Int):=⟨x.col.toNat,by omega⟩
 have hkl:k<r.length:=by omega
 have hkl2:(k:Int)<(r.length:Int):=by omega
 have hkn:¬((k:Int) ≥ (r.length:Int)):=by omega
 obtain⟨y,hy⟩:∃y,r[k]?=some y:=⟨r[k],List.getElem?_eq_getElem hkl⟩
 obtain⟨g,og,rfl⟩:∃g o,ra=some ⟨g,o,none⟩:=by
  rcases uw.out.2.2 with ⟨_,_,hv,_,_,_,hc⟩
  cases hv
  rcases hc with h0|⟨g,o,h,_⟩
  ·omega
  ·exact⟨g,o,h⟩
 have vj:=CM hk
 have HY:=CM hy
 obtain⟨c,hc⟩:∃c,ak y x.v=c:=⟨_,rfl⟩
 have yn:=CM hc
 have uK:=CM (show gg x.op x.col x.v x.w r=(if x.op=3 then decide (c=0)else if x.op=4 then !decide (c=0)else if x.op=5 then decide (c<0)else if x.op=6 then decide (c≤0)else if x.op=7 then decide (0<c)else if x.op=8 then decide (0≤c)else decide (0≤c)&&decide (ak y x.w≤0)) by
  unfold gg
  rw [if_neg (by omega)]
  have:r.getD x.col.toNat default=y:=by rw [hk,Int.toNat_natCast,List.getD_eq_getElem?_getD,hy];rfl
  simp only [this,hc])
 clear c1 c2 hk hy hc hkl
 by_cases p3:x.op=3
 ·have HO:=CM p3
  clear p3
  go_enter Tryz.func87,Tryz.ntmps87
  go_upto_region 1 with fail
  rw [←ul.out]
  clear ul
  generalize w.heap.size=b1 at um ⊢
  obtain⟨x0,x1,x2,x3,x4,x5,x6,x7,x8⟩:=bh um.out
  rw [vj.out]at x1
  obtain⟨y0,y1,y2⟩:=iW uw.out HY.out
  go_upto_region 3 with fail
  have uC:=CM (bQ y x.v W1.drew)
  rw [yn.out]at uC
  refine af [(0,false,7),(1,false,7),(2,false,7),(3,false,7),(4,false,7),(5,false,7),(6,false,7),(7,true,0),(8,false,999)] (by kernel_rfl) (by kernel_rfl) ?_
  iterate 7 (refine ae rfl rfl (fun K hK=>?_);go_simp;refine hK _ ?_;clear hK K)
  refine ag rfl ?_
  refine au rfl (fun K hK=>?_)
  go_simp
  refine uC.out.mono ?_
  rintro e2 w2 ⟨rfl,hk2⟩
  have ux:=CM (uq.out.drew.trans hk2 (fun _ h=>h.elim))
  have un:=CM ((hk2.block b1 (ax (by exact um.out:W1.drew.heap[b1]?=_)) (fun h=>h)).trans um.out)
  have wO:=CM (uw.out.drew.kept hk2 (fun _ _ h=>h))
  clear hk2 uC x0 x1 x2 x3 x4 x5 x6 x7 x8 y0 y1 y2
  obtain⟨x0,x1,x2,x3,x4,x5,x6,x7,x8⟩:=bh un.out
  rw [vj.out]at x1
  refine hK _ _ ?_
  clear hK K
  refine wpList_nil ?_
  refine And.intro ?_ ?_
  ·go_simp
  refine ae rfl rfl (fun K hK=>?_);go_simp;refine hK _ ?_;clear hK K
  refine ah ?_
  rw [HO.out]at x0
  go_wp2_with fail
  go_ret
  exact⟨by rw [uK.out,HO.out];simp [bne,Int.not_lt,beq_iff_eq];try rfl,ux.out⟩
 by_cases p4:x.op=4
 ·have HO:=CM p4
  clear p3 p4
  go_enter Tryz.func87,Tryz.ntmps87
  go_upto_region 1 with fail
  rw [←ul.out]
  clear ul
  generalize w.heap.size=b1 at um ⊢
  obtain⟨x0,x1,x2,x3,x4,x5,x6,x7,x8⟩:=bh um.out
  rw [vj.out]at x1
  obtain⟨y0,y1,y2⟩:=iW uw.out HY.out
  go_upto_region 3 with fail
  have uC:=CM (bQ y x.v W1.drew)
  rw [yn.out]at uC
  refine af [(0,false,7),(1,false,7),(2,false,7),(3,false,7),(4,false,7),(5,false,7),(6,false,7),(7,true,0),(8,false,999)] (by kernel_rfl) (by kernel_rfl) ?_
  iterate 7 (refine ae rfl rfl (fun K hK=>?_);go_simp;refine hK _ ?_;clear hK K)
  refine ag rfl ?_
  refine au rfl (fun K hK=>?_)
  go_simp
  refine uC.out.mono ?_
  rintro e2 w2 ⟨rfl,hk2⟩
  have ux:=CM (uq.out.drew.trans hk2 (fun _ h=>h.elim))
  have un:=CM ((hk2.block b1 (ax (by exact um.out:W1.drew.heap[b1]?=_)) (fun h=>h)).trans um.out)
  have wO:=CM (uw.out.drew.kept hk2 (fun _ _ h=>h))
  clear hk2 uC x0 x1 x2 x3 x4 x5 x6 x7 x8 y0 y1 y2
  obtain⟨x0,x1,x2,x3,x4,x5,x6,x7,x8⟩:=bh un.out
  rw [vj.out]at x1
  refine hK _ _ ?_
  clear hK K
  refine wpList_nil ?_
  refine And.intro ?_ ?_
  ·go_simp
  refine ae rfl rfl (fun K hK=>?_);go_simp;refine hK _ ?_;clear hK K
  refine ah ?_
  rw [HO.out]at x0
  go_wp2_with fail
  go_ret
  exact⟨by rw [uK.out,HO.out];simp [bne,Int.not_lt,beq_iff_eq];try rfl,ux.out⟩
 by_cases p5:x.op=5
 ·have HO:=CM p5
  clear p3 p4 p5
  go_enter Tryz.func87,Tryz.ntmps87
  go_upto_region 1 with fail
  rw [←ul.out]
  clear ul
  generalize w.heap.size=b1 at um ⊢
  obtain⟨x0,x1,x2,x3,x4,x5,x6,x7,x8⟩:=bh um.out
  rw [vj.out]at x1
  obtain⟨y0,y1,y2⟩:=iW uw.out HY.out
  go_upto_region 3 with fail
  have uC:=CM (bQ y x.v W1.drew)
  rw [yn.out]at uC
  refine af [(0,false,7),(1,false,7),(2,false,7),(3,false,7),(4,false,7),(5,false,7),(6,false,7),(7,true,0),(8,false,999)] (by kernel_rfl) (by kernel_rfl) ?_
  iterate 7 (refine ae rfl rfl (fun K hK=>?_);go_simp;refine hK _ ?_;clear hK K)
  refine ag rfl ?_
  refine au rfl (fun K hK=>?_)
  go_simp
  refine uC.out.mono ?_
  rintro e2 w2 ⟨rfl,hk2⟩
  have ux:=CM (uq.out.drew.trans hk2 (fun _ h=>h.elim))
  have un:=CM ((hk2.block b1 (ax (by exact um.out:W1.drew.heap[b1]?=_)) (fun h=>h)).trans um.out)
  have wO:=CM (uw.out.drew.kept hk2 (fun _ _ h=>h))
  clear hk2 uC x0 x1 x2 x3 x4 x5 x6 x7 x8 y0 y1 y2
  obtain⟨x0,x1,x2,x3,x4,x5,x6,x7,x8⟩:=bh un.out
  rw [vj.out]at x1
  refine hK _ _ ?_
  clear hK K
  refine wpList_nil ?_
  refine And.intro ?_ ?_
  ·go_simp
  refine ae rfl rfl (fun K hK=>?_);go_simp;refine hK _ ?_;clear hK K
  refine ah ?_
  rw [HO.out]at x0
  go_wp2_with fail
  go_ret
  exact⟨by rw [uK.out,HO.out];simp [bne,Int.not_lt,beq_iff_eq];try rfl,ux.out⟩
 by_cases p6:x.op=6
 ·have HO:=CM p6
  clear p3 p4 p5 p6
  go_enter Tryz.func87,Tryz.ntmps87
  go_upto_region 1 with fail
  rw [←ul.out]
  clear ul
  generalize w.heap.size=b1 at um ⊢
  obtain⟨x0,x1,x2,x3,x4,x5,x6,x7,x8⟩:=bh um.out
  rw [vj.out]at x1
  obtain⟨y0,y1,y2⟩:=iW uw.out HY.out
  go_upto_region 3 with fail
  have uC:=CM (bQ y x.v W1.drew)
  rw [yn.out]at uC
  refine af [(0,false,7),(1,false,7),(2,false,7),(3,false,7),(4,false,7),(5,false,7),(6,false,7),(7,true,0),(8,false,999)] (by kernel_rfl) (by kernel_rfl) ?_
  iterate 7 (refine ae rfl rfl (fun K hK=>?_);go_simp;refine hK _ ?_;clear hK K)
  refine ag rfl ?_
  refine au rfl (fun K hK=>?_)
  go_simp
  refine uC.out.mono ?_
  rintro e2 w2 ⟨rfl,hk2⟩
  have ux:=CM (uq.out.drew.trans hk2 (fun _ h=>h.elim))
  have un:=CM ((hk2.block b1 (ax (by exact um.out:W1.drew.heap[b1]?=_)) (fun h=>h)).trans um.out)
  have wO:=CM (uw.out.drew.kept hk2 (fun _ _ h=>h))
  clear hk2 uC x0 x1 x2 x3 x4 x5 x6 x7 x8 y0 y1 y2
  obtain⟨x0,x1,x2,x3,x4,x5,x6,x7,x8⟩:=bh un.out
  rw [vj.out]at x1
  refine hK _ _ ?_
  clear hK K
  refine wpList_nil ?_
  refine And.intro ?_ ?_
  ·go_simp
  refine ae rfl rfl (fun K hK=>?_);go_simp;refine hK _ ?_;clear hK K
  refine ah ?_
  rw [HO.out]at x0
  go_wp2_with fail
  go_ret
  exact⟨by rw [uK.out,HO.out];simp [bne,Int.not_lt,beq_iff_eq];try rfl,ux.out⟩
 by_cases p7:x.op=7
 ·have HO:=CM p7
  clear p3 p4 p5 p6 p7
  go_enter Tryz.func87,Tryz.ntmps87
  go_upto_region 1 with fail
  rw [←ul.out]
  clear ul
  generalize w.heap.size=b1 at um ⊢
  obtain⟨x0,x1,x2,x3,x4,x5,x6,x7,x8⟩:=bh um.out
  rw [vj.out]at x1
  obtain⟨y0,y1,y2⟩:=iW uw.out HY.out
  go_upto_region 3 with fail
  have uC:=CM (bQ y x.v W1.drew)
  rw [yn.out]at uC
  refine af [(0,false,7),(1,false,7),(2,false,7),(3,false,7),(4,false,7),(5,false,7),(6,false,7),(7,true,0),(8,false,999)] (by kernel_rfl) (by kernel_rfl) ?_
  iterate 7 (refine ae rfl rfl (fun K hK=>?_);go_simp;refine hK _ ?_;clear hK K)
  refine ag rfl ?_
  refine au rfl (fun K hK=>?_)
  go_simp
  refine uC.out.mono ?_
  rintro e2 w2 ⟨rfl,hk2⟩
  have ux:=CM (uq.out.drew.trans hk2 (fun _ h=>h.elim))
  have un:=CM ((hk2.block b1 (ax (by exact um.out:W1.drew.heap[b1]?=_)) (fun h=>h)).trans um.out)
  have wO:=CM (uw.out.drew.kept hk2 (fun _ _ h=>h))
  clear hk2 uC x0 x1 x2 x3 x4 x5 x6 x7 x8 y0 y1 y2
  obtain⟨x0,x1,x2,x3,x4,x5,x6,x7,x8⟩:=bh un.out
  rw [vj.out]at x1
  refine hK _ _ ?_
  clear hK K
  refine wpList_nil ?_
  refine And.intro ?_ ?_
  ·go_simp
  refine ae rfl rfl (fun K hK=>?_);go_simp;refine hK _ ?_;clear hK K
  refine ah ?_
  rw [HO.out]at x0
  go_wp2_with fail
  go_ret
  exact⟨by rw [uK.out,HO.out];simp [bne,Int.not_lt,beq_iff_eq];try rfl,ux.out⟩
 by_cases p8:x.op=8
 ·have HO:=CM p8
  clear p3 p4 p5 p6 p7 p8
  go_enter Tryz.func87,Tryz.ntmps87
  go_upto_region 1 with fail
  rw [←ul.out]
  clear ul
  generalize w.heap.size=b1 at um ⊢
  obtain⟨x0,x1,x2,x3,x4,x5,x6,x7,x8⟩:=bh um.out
  rw [vj.out]at x1
  obtain⟨y0,y1,y2⟩:=iW uw.out HY.out
  go_upto_region 3 with fail
  have uC:=CM (bQ y x.v W1.drew)
  rw [yn.out]at uC
  refine af [(0,false,7),(1,false,7),(2,false,7),(3,false,7),(4,false,7),(5,false,7),(6,false,7),(7,true,0),(8,false,999)] (by kernel_rfl) (by kernel_rfl) ?_
  iterate 7 (refine ae rfl rfl (fun K hK=>?_);go_simp;refine hK _ ?_;clear hK K)
  refine ag rfl ?_
  refine au rfl (fun K hK=>?_)
  go_simp
  refine uC.out.mono ?_
  rintro e2 w2 ⟨rfl,hk2⟩
  have ux:=CM (uq.out.drew.trans hk2 (fun _ h=>h.elim))
  have un:=CM ((hk2.block b1 (ax (by exact um.out:W1.drew.heap[b1]?=_)) (fun h=>h)).trans um.out)
  have wO:=CM (uw.out.drew.kept hk2 (fun _ _ h=>h))
  clear hk2 uC x0 x1 x2 x3 x4 x5 x6 x7 x8 y0 y1 y2
  obtain⟨x0,x1,x2,x3,x4,x5,x6,x7,x8⟩:=bh un.out
  rw [vj.out]at x1
  refine hK _ _ ?_
  clear hK K
  refine wpList_nil ?_
  refine And.intro ?_ ?_
  ·go_simp
  refine ae rfl rfl (fun K hK=>?_);go_simp;refine hK _ ?_;clear hK K
  refine ah ?_
  rw [HO.out]at x0
  go_wp2_with fail
  go_ret
  exact⟨by rw [uK.out,HO.out];simp [bne,Int.not_lt,beq_iff_eq];try rfl,ux.out⟩
 have n3:(x.op == 3)=false:=by simpa using p3
 have n4:(x.op == 4)=false:=by simpa using p4
 have n5:(x.op == 5)=false:=by simpa using p5
 have n6:(x.op == 6)=false:=by simpa using p6
 have n7:(x.op == 7)=false:=by simpa using p7
 have n8:(x.op == 8)=false:=by simpa using p8
 have HR:=CM (show gg x.op x.col x.v x.w r=(decide (0≤c)&&decide (ak y x.w≤0)) by rw [uK.out,if_neg p3,if_neg p4,if_neg p5,if_neg p6,if_neg p7,if_neg p8])
 clear p3 p4 p5 p6 p7 p8
 by_cases hc0:0≤c
 ·have hc1:c ≥ 0:=hc0
  go_enter Tryz.func87,Tryz.ntmps87
  go_upto_region 1 with fail
  rw [←ul.out]
  clear ul
  generalize w.heap.size=b1 at um ⊢
  obtain⟨x0,x1,x2,x3,x4,x5,x6,x7,x8⟩:=bh um.out
  rw [vj.out]at x1
  obtain⟨y0,y1,y2⟩:=iW uw.out HY.out
  go_upto_region 3 with fail
  have uC:=CM (bQ y x.v W1.drew)
  rw [yn.out]at uC
  refine af [(0,false,7),(1,false,7),(2,false,7),(3,false,7),(4,false,7),(5,false,7),(6,false,7),(7,true,0),(8,false,999)] (by kernel_rfl) (by kernel_rfl) ?_
  iterate 7 (refine ae rfl rfl (fun K hK=>?_);go_simp;refine hK _ ?_;clear hK K)
  refine ag rfl ?_
  refine au rfl (fun K hK=>?_)
  go_simp
  refine uC.out.mono ?_
  rintro e2 w2 ⟨rfl,hk2⟩
  have ux:=CM (uq.out.drew.trans hk2 (fun _ h=>h.elim))
  have un:=CM ((hk2.block b1 (ax (by exact um.out:W1.drew.heap[b1]?=_)) (fun h=>h)).trans um.out)
  have wO:=CM (uw.out.drew.kept hk2 (fun _ _ h=>h))
  clear hk2 uC x0 x1 x2 x3 x4 x5 x6 x7 x8 y0 y1 y2
  obtain⟨x0,x1,x2,x3,x4,x5,x6,x7,x8⟩:=bh un.out
  rw [vj.out]at x1
  refine hK _ _ ?_
  clear hK K
  refine wpList_nil ?_
  refine And.intro ?_ ?_
  ·go_simp
  refine ae rfl rfl (fun K hK=>?_);go_simp;refine hK _ ?_;clear hK K
  refine ah ?_
  obtain⟨y0,y1,y2⟩:=iW wO.out HY.out
  go_upto_region 17 with fail
  obtain⟨d,hd⟩:∃d,ak y x.w=d:=⟨_,rfl⟩
  have BX:=CM hd
  have zp:=CM (bQ y x.w w2.drew)
  rw [BX.out]at zp
  clear hd
  refine af [(0,false,10),(1,false,10),(2,false,10),(3,false,10),(4,false,10),(5,false,10),(6,false,10),(7,false,10),(8,false,10),(9,false,10),(10,true,0),(11,false,999),(12,false,999),(13,false,999)] (by kernel_rfl) (by kernel_rfl) ?_
  iterate 3 (refine ae rfl rfl (fun K hK=>?_);go_simp;refine hK _ ?_;clear hK K)
  iterate 7 (first|(refine al rfl rfl ?_;simp only [Act.put,CO,CP,CQ,CR,CT,CU])|(refine ai rfl rfl (fun K hK=>?_);go_simp;refine hK _ ?_;clear hK K))
  refine ag rfl ?_
  refine au rfl (fun K hK=>?_)
  go_simp
  refine zp.out.mono ?_
  rintro e3 w3 ⟨rfl,hk3⟩
  have vI:=CM (ux.out.drew.trans hk3 (fun _ h=>h.elim))
  clear hk3 zp
  refine hK _ _ ?_
  clear hK K
  refine wpList_nil ?_
  refine And.intro ?_ ?_
  ·go_simp
  first|(refine al rfl rfl ?_;simp only [Act.put,CO,CP,CQ,CR,CT,CU])|(refine ai rfl rfl (fun K hK=>?_);go_simp;refine hK _ ?_;clear hK K)
  iterate 2 (refine ae rfl rfl (fun K hK=>?_);go_simp;refine hK _ ?_;clear hK K)
  refine ah ?_
  go_wp2_with fail
  go_ret
  exact⟨by rw [HR.out,BX.out];simp [hc0],vI.out⟩
 ·have hc1:¬c ≥ 0:=hc0
  go_enter Tryz.func87,Tryz.ntmps87
  go_upto_region 1 with fail
  rw [←ul.out]
  clear ul
  generalize w.heap.size=b1 at um ⊢
  obtain⟨x0,x1,x2,x3,x4,x5,x6,x7,x8⟩:=bh um.out
  rw [vj.out]at x1
  obtain⟨y0,y1,y2⟩:=iW uw.out HY.out
  go_upto_region 3 with fail
  have uC:=CM (bQ y x.v W1.drew)
  rw [yn.out]at uC
  refine af [(0,false,7),(1,false,7),(2,false,7),(3,false,7),(4,false,7),(5,false,7),(6,false,7),(7,true,0),(8,false,999)] (by kernel_rfl) (by kernel_rfl) ?_
  iterate 7 (refine ae rfl rfl (fun K hK=>?_);go_simp;refine hK _ ?_;clear hK K)
  refine ag rfl ?_
  refine au rfl (fun K hK=>?_)
  go_simp
  refine uC.out.mono ?_
  rintro e2 w2 ⟨rfl,hk2⟩
  have ux:=CM (uq.out.drew.trans hk2 (fun _ h=>h.elim))
  have un:=CM ((hk2.block b1 (ax (by exact um.out:W1.drew.heap[b1]?=_)) (fun h=>h)).trans um.out)
  have wO:=CM (uw.out.drew.kept hk2 (fun _ _ h=>h))
  clear hk2 uC x0 x1 x2 x3 x4 x5 x6 x7 x8 y0 y1 y2
  obtain⟨x0,x1,x2,x3,x4,x5,x6,x7,x8⟩:=bh un.out
  rw [vj.out]at x1
  refine hK _ _ ?_
  clear hK K
  refine wpList_nil ?_
  refine And.intro ?_ ?_
  ·go_simp
  refine ae rfl rfl (fun K hK=>?_);go_simp;refine hK _ ?_;clear hK K
  refine ah ?_
  go_upto_region 17 with fail
  refine af [(0,false,10),(1,false,10),(2,false,10),(3,false,10),(4,false,10),(5,false,10),(6,false,10),(7,false,10),(8,false,10),(9,false,10),(10,true,0),(11,false,999),(12,false,999),(13,false,999)] (by kernel_rfl) (by kernel_rfl) ?_
  iterate 3 (refine ae rfl rfl (fun K hK=>?_);go_simp;refine hK _ ?_;clear hK K)
  iterate 7 (first|(refine al rfl rfl ?_;simp only [Act.put,CO,CP,CQ,CR,CT,CU])|(refine ai rfl rfl (fun K hK=>?_);go_simp;refine hK _ ?_;clear hK K))
  refine ag rfl ?_
  refine bW rfl ?_
  simp only [Act.put,CO,CP,CQ]
  refine wpList_nil ?_
  refine And.intro ?_ ?_
  ·go_simp
  first|(refine al rfl rfl ?_;simp only [Act.put,CO,CP,CQ,CR,CT,CU])|(refine ai rfl rfl (fun K hK=>?_);go_simp;refine hK _ ?_;clear hK K)
  iterate 2 (refine ae rfl rfl (fun K hK=>?_);go_simp;refine hK _ ?_;clear hK K)
  refine ah ?_
  go_wp2_with fail
  go_ret
  exact⟨by rw [HR.out,decide_eq_false (Int.not_le.mpr hc0)];rfl,ux.out.drew⟩
end Go.Proofs.YtdobimafhbfkhaaGreat
