/- Joined texts: What is taken back, as data. What put and out noted gives the tables back. IndexFunc, ContainsFunc over predicates. (printed by genq.py) Are two rows the same (ratlineref02.Same). Whether a part about a column holds (pred.leaf). -/
import Derived.Test.YtdobimafhbfkhaaGreatOE32
import Derived.Test.YtdobimafhbfkhaaGreatOE9
set_option maxHeartbeats 64000000
namespace Go.Proofs.YtdobimafhbfkhaaGreat
set_option linter.unusedSimpArgs false
def ltR (k:Val)(q:List Val):Bool:=decide (aj (aI q) k<0)
def gtR (k:Val)(q:List Val):Bool:=decide (0<aj (aI q) k)
def sI (r:List Val):Val×VT:=(aI r,RowT.none)
theorem iu (m:av)(r:List Val):cz m r=m.filter (ltR (aI r))++r::m.filter (gtR (aI r)):=rfl
theorem ju {x:List Val}{m:av}(h:bh (eE (x::m))):(∀y∈m,aj (aI x) (aI y)<0)∧bh (eE m):=by
 have h':(sI x::eE m).Pairwise (fun a b=>aj a.1 b.1<0):=h
 rw [List.pairwise_cons]at h'
 exact⟨fun y hy=>h'.1 (sI y) (List.mem_map_of_mem hy),h'.2⟩
theorem above {x:List Val}{m:av}{k:Val}(h:∀y∈m,aj (aI x) (aI y)<0)(hx:aj k (aI x)≤0):m.filter (ltR k) = []∧m.filter (gtR k)=m:=by
 have hk:∀y∈m,aj k (aI y)<0:=fun y hy=>jm hx (h y hy)
 refine⟨List.filter_eq_nil_iff.2 fun y hy=>?_,List.filter_eq_self.2 fun y hy=>?_⟩
 ·have:=hk y hy
  have e:=cZ k (aI y)
  unfold ltR
  rw [decide_eq_true_eq]
  omega
 ·have:=hk y hy
  have e:=cZ k (aI y)
  unfold gtR
  rw [decide_eq_true_eq]
  omega
theorem kS {k:Val}:∀ {m:av},bh (eE m)→(∀q∈m,aj (aI q) k≠0)→m.filter (ltR k)++m.filter (gtR k)=m
 | [],_,_=>rfl
 | x::m,hs,hn=>by
  obtain⟨h1,h2⟩:=ju hs
  have hx:=hn x (List.mem_cons_self ..)
  by_cases hlt:aj (aI x) k<0
  ·have e1:ltR k x=true:=decide_eq_true hlt
   have e2:gtR k x=false:=decide_eq_false (by omega)
   rw [List.filter_cons,List.filter_cons,e1,e2]
   simp only [if_true,Bool.false_eq_true,if_false,List.cons_append]
   rw [kS h2 (fun q hq=>hn q (List.mem_cons_of_mem _ hq))]
  ·have e1:ltR k x=false:=decide_eq_false hlt
   have e2:gtR k x=true:=decide_eq_true (by omega)
   obtain⟨g1,g2⟩:=above (k:=k) h1 (by have:=cZ (aI x) k;omega)
   rw [List.filter_cons,List.filter_cons,e1,e2,g1,g2]
   rfl
theorem ik {k:Val}{q:List Val}:∀ {m:av},bh (eE m)→q∈m→aj (aI q) k=0→m.filter (ltR k)++q::m.filter (gtR k)=m
 | x::m,hs,hq,h0=>by
  obtain⟨h1,h2⟩:=ju hs
  rcases List.mem_cons.1 hq with rfl|hq
  ·have e1:ltR k q=false:=decide_eq_false (by omega)
   have e2:gtR k q=false:=decide_eq_false (by omega)
   obtain⟨g1,g2⟩:=above (k:=k) h1 (by have:=cZ (aI q) k;omega)
   rw [List.filter_cons,List.filter_cons,e1,e2,g1,g2]
   rfl
  ·have hlt:aj (aI x) k<0:=iE (h1 q hq) (by omega)
   have e1:ltR k x=true:=decide_eq_true hlt
   have e2:gtR k x=false:=decide_eq_false (by omega)
   rw [List.filter_cons,List.filter_cons,e1,e2]
   simp only [if_true,Bool.false_eq_true,if_false,List.cons_append]
   rw [ik h2 hq h0]
theorem lR (k:Val)(y:List Val):(ltR k y&&gtR k y)=false:=by
 unfold ltR gtR
 rw [Bool.and_eq_false_iff,decide_eq_false_iff_not,decide_eq_false_iff_not]
 omega
theorem pU (m:av):m.filter (fun _=>false) = []:=List.filter_eq_nil_iff.2 (fun _ _=>by simp)
theorem filt_lt (m:av)(r:List Val):(cz m r).filter (ltR (aI r))=m.filter (ltR (aI r)):=by
 have e1:ltR (aI r) r=false:=decide_eq_false (by rw [cS];omega)
 rw [iu,List.filter_append,List.filter_cons,e1,List.filter_filter,List.filter_filter]
 simp only [Bool.false_eq_true,if_false,lR,Bool.and_self,pU,List.append_nil]
theorem filt_gt (m:av)(r:List Val):(cz m r).filter (gtR (aI r))=m.filter (gtR (aI r)):=by
 have e1:gtR (aI r) r=false:=decide_eq_false (by rw [cS];omega)
 rw [iu,List.filter_append,List.filter_cons,e1,List.filter_filter,List.filter_filter]
 simp only [Bool.false_eq_true,if_false,Bool.and_comm (gtR _ _),lR,Bool.and_self,pU,List.nil_append]
theorem put_put {c:List Bool}{m:av}(h:TabI c m){r q:List Val}(hq:q∈m)(hk:aI q=aI r):cz (cz m r) q=m:=by
 rw [iu (cz m r) q,hk,filt_lt,filt_gt]
 exact ik h.sorted hq (by rw [hk];exact cS _)
theorem del_put {c:List Bool}{m:av}(h:TabI c m){r:List Val}(hr:bD c r=true)(hno:aU m (aI r)=none):dA (cz m r) (aI r)=m:=by
 have hk:am (aI r)=true:=by obtain⟨k,_,e,hk,_⟩:=dW hr;rw [e];exact hk
 have hne:∀q∈m,aj (aI q) (aI r)≠0:=fun q hq h0=>by
  have e:=iV (h.keys q hq) hk h0
  have:=eD.2 ⟨q,hq,e⟩
  rw [hno]at this
  cases this
 unfold dA
 rw [iu,List.filter_append,List.filter_cons]
 have e1:(!decide (aj (aI r) (aI r)=0))=false:=by rw [cS];rfl
 rw [e1]
 simp only [Bool.false_eq_true,if_false]
 have f1:∀p:List Val→Bool,(m.filter p).filter (fun q=>!decide (aj (aI q) (aI r)=0))=m.filter p:=fun p=>List.filter_eq_self.2 (fun q hq=>by simpa using hne q (List.mem_filter.1 hq).1)
 rw [f1,f1]
 exact kS h.sorted hne
theorem nF (m:av)(k:Val):(dA m k).filter (ltR k)=m.filter (ltR k)∧(dA m k).filter (gtR k)=m.filter (gtR k):=by
 unfold dA
 rw [List.filter_filter,List.filter_filter]
 refine⟨List.filter_congr fun q _=>?_,List.filter_congr fun q _=>?_⟩
 ·unfold ltR
  by_cases h:aj (aI q) k<0
  ·rw [decide_eq_true h,decide_eq_false (show ¬aj (aI q) k=0 by omega)];rfl
  ·rw [decide_eq_false h];rfl
 ·unfold gtR
  by_cases h:0<aj (aI q) k
  ·rw [decide_eq_true h,decide_eq_false (show ¬aj (aI q) k=0 by omega)];rfl
  ·rw [decide_eq_false h];rfl
theorem put_del {c:List Bool}{m:av}(h:TabI c m){q:List Val}(hq:q∈m):cz (dA m (aI q)) q=m:=by
 rw [iu,(nF m (aI q)).1,(nF m (aI q)).2]
 exact ik h.sorted hq (cS _)
theorem rq {α:Type}{l:List α}{i:Nat}{a:α}(h:l[i]?=some a)(b:α):(l.set i b).set i a=l:=by
 rw [List.set_set]
 refine List.ext_getElem? fun j=>?_
 by_cases hj:i=j
 ·subst hj
  rw [List.getElem?_set_self (List.getElem?_eq_some_iff.1 h).1,h]
 ·rw [List.getElem?_set_ne hj]
theorem mD {c:List Bool}{r:List Val}(h:bD c r=true):r.isEmpty=false:=by
 obtain⟨k,h0,_⟩:=dW h
 cases r with
 | nil=>cases h0
 | cons a r=>rfl
theorem mw {T:List av}{i:Nat}{m m':av}(hm:T[i]?=some m){k:Val}{q:List Val}(h:(if q.isEmpty then dA m' k else cz m' q)=m):gu (T.set i m') ⟨(i:Int),k,q⟩=T:=by
 have hlt:=(List.getElem?_eq_some_iff.1 hm).1
 unfold gu
 simp only [Int.toNat_natCast]
 rw [List.getD_eq_getElem?_getD,List.getElem?_set_self hlt,Option.getD_some,h]
 exact rq hm m'
theorem sL {T:List av}{i:Nat}{c:List Bool}{m:av}{r:List Val}(hm:T[i]?=some m)(hI:TabI c m)(hr:bD c r=true):gu (T.set i (cz m r)) ⟨(i:Int),aI r,(aU m (aI r)).getD []⟩=T:=by
 refine mw hm ?_
 cases hf:aU m (aI r)with
 | none=>exact del_put hI hr hf
 | some q =>
  obtain⟨hq,hk⟩:=dM hf
  rw [Option.getD_some,mD (hI.fits q hq)]
  exact put_put hI hq hk
theorem rS {T:List av}{i:Nat}{c:List Bool}{m:av}{k:Val}(hm:T[i]?=some m)(hI:TabI c m)(hf:(aU m k).isSome=true):gu (T.set i (dA m k)) ⟨(i:Int),k,(aU m k).getD []⟩=T:=by
 refine mw hm ?_
 cases hq:aU m k with
 | none=>rw [hq]at hf;cases hf
 | some q =>
  obtain⟨h1,h2⟩:=dM hq
  rw [Option.getD_some,mD (hI.fits q h1),←h2]
  exact put_del hI h1
def Well (cols:List (List Bool))(T:List av):Prop:=T.length=cols.length∧∀(i:Nat) (c:List Bool) (m:av),cols[i]?=some c→T[i]?=some m→TabI c m∧m.length≤200
def BefI (cols:List (List Bool))(b:BefM):Prop:=∃(i:Nat) (c:List Bool),b.table=(i:Int)∧cols[i]?=some c∧am b.key=true∧(b.r = []∨(bD c b.r=true∧bO b.r∧aI b.r=b.key))
inductive LogI (cols:List (List Bool)):List av→List BefM→Prop where
 | nil {T:List av} (h:Well cols T):LogI cols T []
 | cons {T:List av} {b:BefM} {l:List BefM} (h:Well cols T) (hb:BefI cols b) (t:LogI cols (gu T b) l):LogI cols T (b::l)
theorem LogI.well {cols:List (List Bool)}{T:List av}{l:List BefM}(h:LogI cols T l):Well cols T:=by cases h<;>assumption
end Go.Proofs.YtdobimafhbfkhaaGreat
namespace Go.Proofs.YtdobimafhbfkhaaGreat
open Go.ChangeShapes Go.WideShapes Go.ChangeAt Go.RowKit
set_option maxRecDepth 100000
set_option linter.unusedSimpArgs false
theorem nr {w:World}{v:Value}{xs:List (PredE)}{F:Nat}{caps:Array Value}(p:PredE→Bool)(hrd:Rd w 9 v xs.length (xs.flatMap PredE.cells))(HF:∀x∈xs,PredF F caps w (PredE.cells x) (p x)) :
  Calls Tryz.prog 104 #[v,.func (.func F) #[] caps] w fun e w'=>e = .returned (.int .i64 (mr p xs))∧Kept (fun _=>False) w w':=by
 obtain⟨_,hml,ao,cap,rfl,hnc,hcm,_⟩:=id hrd
 unfold maxLen at hml hcm
 have tu:=BO hrd
 have vJ:=BO HF
 clear hrd HF
 obtain⟨N,hN⟩:∃N,xs.length=N:=⟨_,rfl⟩
 have HN:=BO hN
 rw [hN]at tu hml hnc ⊢
 clear hN
 go_enter Tryz.func104,Tryz.ntmps104
 go_wp2_with fail
 go_loopw [8] (fun i wr=>∃j:Nat,i = .int .i64 j∧j≤N∧(∀x∈xs.take j,p x=false)∧Kept (fun _=>False) w wr) (fun i _=>N-(intOf i).toNat)
 case atStart=>exact⟨0,rfl,by omega,fun x hx=>by simp at hx,Kept.refl _ _⟩
 case round =>
  obtain⟨j,rfl,hj,hp,hk⟩:=hrel
  have HP:=BO hp
  have HK:=BO hk
  clear hp hk
  by_cases hlt:j<N
  ·have hi:(j:Int)<(N:Int):=by omega
   obtain⟨x,hx⟩:∃x,xs[j]?=some x:=⟨xs[j]'(by rw [HN.out];exact hlt),List.getElem?_eq_getElem _⟩
   obtain⟨g,o,rfl,hrng⟩:=bS PredE.len (tu.out.kept HK.out (fun _ _ h=>h)) hx HN.out
   have HL:=BO (dJ hrng)
   have HX:=BO hx
   obtain⟨hent,hcall⟩:=vJ.out x (List.mem_of_getElem? hx)
   unfold Enters at hent
   have HC:=BO (hcall wr HK.out)
   clear hx hrng hcall
   cases hpx:p x
   ·rw [hpx]at HC
    have Ap:=BO hpx
    clear hpx
    go_wp2_with (first|(refine bE rfl _ _ rfl _ _ rfl _ HL.out ?_)|(refine HC.out.mono ?_;rintro e1 w1 ⟨rfl,hk1⟩;have tr:=BO (HK.out.trans hk1 (fun _ h=>h.elim));clear hk1 HC HL))
    go_roundw
    case rel=>exact⟨j+1,by go_num,by omega,lp HP.out HX.out Ap.out,tr.out⟩
    case measure=>simp [intOf];omega
   ·rw [hpx]at HC
    have Ap:=BO hpx
    clear hpx
    go_wp2_with (first|(refine bE rfl _ _ rfl _ _ rfl _ HL.out ?_)|(refine HC.out.mono ?_;rintro e1 w1 ⟨rfl,hk1⟩;have tr:=BO (HK.out.trans hk1 (fun _ h=>h.elim));clear hk1 HC HL))
    go_ret
    exact⟨by rw [idxI_at HP.out HX.out Ap.out];rfl,tr.out⟩
  ·have hi:¬((j:Int)<(N:Int)):=by omega
   have he:mr p xs = -1:=qy (by have:=HP.out;rwa [List.take_of_length_le (by rw [HN.out];omega)]at this)
   have HE:=BO he
   clear he
   go_wp2_with fail
   go_ret
   exact⟨by rw [HE.out];rfl,HK.out⟩
theorem gB {w:World}{v:Value}{xs:List (PredE)}{F:Nat}{caps:Array Value}(p:PredE→Bool)(hrd:Rd w 9 v xs.length (xs.flatMap PredE.cells))(HF:∀x∈xs,PredF F caps w (PredE.cells x) (p x)) :
  Calls Tryz.prog 88 #[v,.func (.func F) #[] caps] w fun e w'=>e = .returned (.bool (xs.any p))∧Kept (fun _=>False) w w':=by
 have H:=BO (nr p hrd HF)
 rw [←rE]
 clear hrd HF
 generalize mr p xs=k at *
 go_enter Tryz.func88,Tryz.ntmps88
 go_wp2_with (go_at_call 104;refine H.out.mono ?_;rintro e1 w1 ⟨rfl,hk1⟩;have tr:=BO hk1;clear hk1 H)
 go_ret
 exact⟨rfl,tr.out⟩
theorem rB {w:World}{v1 v2:Value}{l1 l2:List Val}(h1:ej w v1 l1)(h2:ej w v2 l2) :
  Calls Tryz.prog 42 #[v1,v2] w fun e w'=>e = .returned (.bool (decide (l1=l2)))∧∃n,w'=w.drewN n:=by
 obtain⟨_,m1,a1,c1,rfl,n1,_,_,g1⟩:=h1
 obtain⟨_,m2,a2,c2,rfl,n2,_,_,g2⟩:=h2
 unfold maxLen at m1 m2
 by_cases hlen:l1.length=l2.length
 ·rw [←hlen]at g2
  have G1:=BO g1
  have G2:=BO g2
  clear g1 g2
  generalize hL:l1.length=L at *
  rw [←hlen]
  go_enter Tryz.func42,Tryz.ntmps42
  go_wp2_with fail
  go_loopw [5] (fun i wr=>∃k:Nat,i = .int .i64 k∧k≤L∧l1.take k=l2.take k∧∃n,wr=w.drewN n) (fun i _=>L-(intOf i).toNat)
  case atStart=>exact⟨0,rfl,by omega,rfl,0,rfl⟩
  case round =>
   obtain⟨k,rfl,hk,ht,n0,rfl⟩:=hrel
   have HT:=BO ht
   clear ht
   by_cases hlt:k<L
   ·obtain⟨a,ha⟩:∃a,l1[k]?=some a:=⟨l1[k]'(by omega),List.getElem?_eq_getElem (by omega)⟩
    obtain⟨b,hb⟩:∃b,l2[k]?=some b:=⟨l2[k]'(by omega),List.getElem?_eq_getElem (by omega)⟩
    rcases G1.out with h0|⟨b1,o1,rfl,hc1⟩
    ·omega
    rcases G2.out with h0|⟨b2,o2,rfl,hc2⟩
    ·omega
    have x0:=hc1 _ _ (br Val.len l1 k a ha 0 _ rfl)
    have x1:=hc1 _ _ (br Val.len l1 k a ha 1 _ rfl)
    have x2:=hc1 _ _ (br Val.len l1 k a ha 2 _ rfl)
    have y0:=hc2 _ _ (br Val.len l2 k b hb 0 _ rfl)
    have y1:=hc2 _ _ (br Val.len l2 k b hb 1 _ rfl)
    have y2:=hc2 _ _ (br Val.len l2 k b hb 2 _ rfl)
    rw [Nat.add_zero]at x0 y0
    rw [←Nat.add_assoc]at x1 x2 y1 y2
    have HA:=BO ha
    have HB:=BO hb
    clear ha hb hc1 hc2
    by_cases hab:a=b
    ·subst hab
     go_wp2_with fail
     go_quiet (fail)
     go_wp2_with fail
     go_roundw
     case rel=>exact⟨k+1,by go_num,by omega,iL HT.out HA.out HB.out,_,rfl⟩
     case measure=>simp [intOf];omega
    ·have hv:ei a.t a.n a.s b.t b.n b.s=false:=by rw [pq];exact decide_eq_false hab
     have hne:decide (l1=l2)=false:=decide_eq_false (fun e=>by
      have h1:=HA.out
      have h2:=HB.out
      rw [e,h2]at h1
      exact hab (Option.some.inj h1).symm)
     have vT:=BO hne
     clear hne
     go_wp2_with fail
     go_quiet (fail)
     go_wp2_with fail
     go_ret
     exact⟨by rw [vT.out];rfl,_,World.drewN_drewN _ _ _⟩
   ·have heq:decide (l1=l2)=true:=decide_eq_true (jl HT.out (by omega) (by omega))
    have Aq:=BO heq
    clear heq
    go_wp2_with fail
    go_ret
    exact⟨by rw [Aq.out];rfl,n0,rfl⟩
 ·have hne:decide (l1=l2)=false:=decide_eq_false (fun e=>hlen (by rw [e]))
  have hbe:((l1.length:Int) == (l2.length:Int))=false:=by simp;omega
  have vT:=BO hne
  clear hne g1 g2
  go_enter Tryz.func42,Tryz.ntmps42
  go_wp2_with fail
  go_ret
  exact⟨by rw [vT.out];rfl,0,rfl⟩
theorem iK {w:World}{g o N cap h:Nat}{r:List Val}{x:Val}(hrd:Rd w 3 (.slice (some ⟨g,o,none⟩) N cap) N (r.flatMap Val.cells))(hx:r[h]?=some x) :
  w.cell? ⟨g,o+h*3,none⟩=some (.bool x.t)∧w.cell? ⟨g,o+h*3+1,none⟩=some (.int .i64 x.n)∧w.cell? ⟨g,o+h*3+2,none⟩=some (.string x.s):=by
 have hlt:=(List.getElem?_eq_some_iff.1 hx).1
 rcases hrd.2.2 with ⟨_,_,hv,_,_,_,hcell⟩
 cases hv
 rcases hcell with h0|⟨_,_,hg,hc⟩
 ·have:=hrd.1
  rw [bZ Val.len]at this
  omega
 cases hg
 have a0:=hc _ _ (br Val.len r h _ hx 0 _ rfl)
 have a1:=hc _ _ (br Val.len r h _ hx 1 _ rfl)
 have a2:=hc _ _ (br Val.len r h _ hx 2 _ rfl)
 rw [Nat.add_zero]at a0
 rw [←Nat.add_assoc]at a1 a2
 exact⟨a0,a1,a2⟩
theorem sK {w:World}(x:PredE){rv:Value}{r:List Val}(hr:ej w rv r):Calls Tryz.prog 87 #[.agg x.cells.toArray,rv] w fun e w'=>e = .returned (.bool (fY x.op x.col x.v x.w r))∧Kept (fun _=>False) w w':=by
 obtain⟨W1,hW1,hk1,hb1⟩:∃W,W=w.alloc (.cells x.cells.toArray tPr)∧Kept (fun _=>False) w W∧W.heap[w.heap.size]?=some (.cells x.cells.toArray tPr (0,0)):=⟨_,rfl,(Kept.refl _ _).alloc _,aw _ _⟩
 have tu:=BO (hr.kept hk1 (fun _ _ h=>h))
 obtain⟨_,hml,ra,rc,rfl,hnc,hcm,_⟩:=id hr
 unfold maxLen at hml hcm
 have tk:=BO hW1
 have tr:=BO hk1
 have tl:=BO hb1
 clear hr hW1 hk1 hb1
 by_cases c1:x.col<0
 ·have HR:=BO (show fY x.op x.col x.v x.w r=false by unfold fY;rw [if_pos (.inl c1)])
  go_enter Tryz.func87,Tryz.ntmps87
  go_upto_region 1 with fail
  rw [←tk.out]
  clear tk
  generalize w.heap.size=b1 at tl ⊢
  obtain⟨x0,x1,x2,x3,x4,x5,x6,x7,x8⟩:=be tl.out
  go_wp2_with fail
  go_ret
  exact⟨by rw [HR.out];rfl,tr.out⟩
 by_cases c2:(r.length:Int)≤x.col
 ·have HR:=BO (show fY x.op x.col x.v x.w r=false by unfold fY;rw [if_pos (.inr c2)])
  have c2':x.col ≥ (r.length:Int):=c2
  go_enter Tryz.func87,Tryz.ntmps87
  go_upto_region 1 with fail
  rw [←tk.out]
  clear tk
  generalize w.heap.size=b1 at tl ⊢
  obtain⟨x0,x1,x2,x3,x4,x5,x6,x7,x8⟩:=be tl.out
  go_wp2_with fail
  go_ret
  exact⟨by rw [HR.out];rfl,tr.out⟩
 obtain⟨k,hk⟩:∃k:Nat,x.col=(k:Int):=⟨x.col.toNat,by omega⟩
 have hkl:k<r.length:=by omega
 have hkl2:(k:Int)<(r.length:Int):=by omega
 have hkn:¬((k:Int) ≥ (r.length:Int)):=by omega
 obtain⟨y,hy⟩:∃y,r[k]?=some y:=⟨r[k],List.getElem?_eq_getElem hkl⟩
 obtain⟨g,og,rfl⟩:∃g o,ra=some ⟨g,o,none⟩:=by
  rcases tu.out.2.2 with ⟨_,_,hv,_,_,_,hc⟩
  cases hv
  rcases hc with h0|⟨g,o,h,_⟩
  ·omega
  ·exact⟨g,o,h⟩
 have ux:=BO hk
 have HY:=BO hy
 obtain⟨c,hc⟩:∃c,aj y x.v=c:=⟨_,rfl⟩
 have wX:=BO hc
 have tO:=BO (show fY x.op x.col x.v x.w r=(if x.op=3 then decide (c=0)else if x.op=4 then !decide (c=0)else if x.op=5 then decide (c<0)else if x.op=6 then decide (c≤0)else if x.op=7 then decide (0<c)else if x.op=8 then decide (0≤c)else decide (0≤c)&&decide (aj y x.w≤0)) by
  unfold fY
  rw [if_neg (by omega)]
  have:r.getD x.col.toNat default=y:=by rw [hk,Int.toNat_natCast,List.getD_eq_getElem?_getD,hy];rfl
  simp only [this,hc])
 clear c1 c2 hk hy hc hkl
 by_cases p3:x.op=3
 ·have HO:=BO p3
  clear p3
  go_enter Tryz.func87,Tryz.ntmps87
  go_upto_region 1 with fail
  rw [←tk.out]
  clear tk
  generalize w.heap.size=b1 at tl ⊢
  obtain⟨x0,x1,x2,x3,x4,x5,x6,x7,x8⟩:=be tl.out
  rw [ux.out]at x1
  obtain⟨y0,y1,y2⟩:=iK tu.out HY.out
  go_upto_region 3 with fail
  have tD:=BO (bL y x.v W1.drew)
  rw [wX.out]at tD
  refine af [(0,false,7),(1,false,7),(2,false,7),(3,false,7),(4,false,7),(5,false,7),(6,false,7),(7,true,0),(8,false,999)] (by kernel_rfl) (by kernel_rfl) ?_
  iterate 7 (refine ae rfl rfl (fun K hK=>?_);go_simp;refine hK _ ?_;clear hK K)
  refine ah rfl ?_
  refine aq rfl (fun K hK=>?_)
  go_simp
  refine tD.out.mono ?_
  rintro e2 w2 ⟨rfl,hk2⟩
  have tC:=BO (tr.out.drew.trans hk2 (fun _ h=>h.elim))
  have tn:=BO ((hk2.block b1 (ax (by exact tl.out:W1.drew.heap[b1]?=_)) (fun h=>h)).trans tl.out)
  have vD:=BO (tu.out.drew.kept hk2 (fun _ _ h=>h))
  clear hk2 tD x0 x1 x2 x3 x4 x5 x6 x7 x8 y0 y1 y2
  obtain⟨x0,x1,x2,x3,x4,x5,x6,x7,x8⟩:=be tn.out
  rw [ux.out]at x1
  refine hK _ _ ?_
  clear hK K
  refine wpList_nil ?_
  refine And.intro ?_ ?_
  ·go_simp
  refine ae rfl rfl (fun K hK=>?_);go_simp;refine hK _ ?_;clear hK K
  refine ai ?_
  rw [HO.out]at x0
  go_wp2_with fail
  go_ret
  exact⟨by rw [tO.out,HO.out];simp [bne,Int.not_lt,beq_iff_eq];try rfl,tC.out⟩
 by_cases p4:x.op=4
 ·have HO:=BO p4
  clear p3 p4
  go_enter Tryz.func87,Tryz.ntmps87
  go_upto_region 1 with fail
  rw [←tk.out]
  clear tk
  generalize w.heap.size=b1 at tl ⊢
  obtain⟨x0,x1,x2,x3,x4,x5,x6,x7,x8⟩:=be tl.out
  rw [ux.out]at x1
  obtain⟨y0,y1,y2⟩:=iK tu.out HY.out
  go_upto_region 3 with fail
  have tD:=BO (bL y x.v W1.drew)
  rw [wX.out]at tD
  refine af [(0,false,7),(1,false,7),(2,false,7),(3,false,7),(4,false,7),(5,false,7),(6,false,7),(7,true,0),(8,false,999)] (by kernel_rfl) (by kernel_rfl) ?_
  iterate 7 (refine ae rfl rfl (fun K hK=>?_);go_simp;refine hK _ ?_;clear hK K)
  refine ah rfl ?_
  refine aq rfl (fun K hK=>?_)
  go_simp
  refine tD.out.mono ?_
  rintro e2 w2 ⟨rfl,hk2⟩
  have tC:=BO (tr.out.drew.trans hk2 (fun _ h=>h.elim))
  have tn:=BO ((hk2.block b1 (ax (by exact tl.out:W1.drew.heap[b1]?=_)) (fun h=>h)).trans tl.out)
  have vD:=BO (tu.out.drew.kept hk2 (fun _ _ h=>h))
  clear hk2 tD x0 x1 x2 x3 x4 x5 x6 x7 x8 y0 y1 y2
  obtain⟨x0,x1,x2,x3,x4,x5,x6,x7,x8⟩:=be tn.out
  rw [ux.out]at x1
  refine hK _ _ ?_
  clear hK K
  refine wpList_nil ?_
  refine And.intro ?_ ?_
  ·go_simp
  refine ae rfl rfl (fun K hK=>?_);go_simp;refine hK _ ?_;clear hK K
  refine ai ?_
  rw [HO.out]at x0
  go_wp2_with fail
  go_ret
  exact⟨by rw [tO.out,HO.out];simp [bne,Int.not_lt,beq_iff_eq];try rfl,tC.out⟩
 by_cases p5:x.op=5
 ·have HO:=BO p5
  clear p3 p4 p5
  go_enter Tryz.func87,Tryz.ntmps87
  go_upto_region 1 with fail
  rw [←tk.out]
  clear tk
  generalize w.heap.size=b1 at tl ⊢
  obtain⟨x0,x1,x2,x3,x4,x5,x6,x7,x8⟩:=be tl.out
  rw [ux.out]at x1
  obtain⟨y0,y1,y2⟩:=iK tu.out HY.out
  go_upto_region 3 with fail
  have tD:=BO (bL y x.v W1.drew)
  rw [wX.out]at tD
  refine af [(0,false,7),(1,false,7),(2,false,7),(3,false,7),(4,false,7),(5,false,7),(6,false,7),(7,true,0),(8,false,999)] (by kernel_rfl) (by kernel_rfl) ?_
  iterate 7 (refine ae rfl rfl (fun K hK=>?_);go_simp;refine hK _ ?_;clear hK K)
  refine ah rfl ?_
  refine aq rfl (fun K hK=>?_)
  go_simp
  refine tD.out.mono ?_
  rintro e2 w2 ⟨rfl,hk2⟩
  have tC:=BO (tr.out.drew.trans hk2 (fun _ h=>h.elim))
  have tn:=BO ((hk2.block b1 (ax (by exact tl.out:W1.drew.heap[b1]?=_)) (fun h=>h)).trans tl.out)
  have vD:=BO (tu.out.drew.kept hk2 (fun _ _ h=>h))
  clear hk2 tD x0 x1 x2 x3 x4 x5 x6 x7 x8 y0 y1 y2
  obtain⟨x0,x1,x2,x3,x4,x5,x6,x7,x8⟩:=be tn.out
  rw [ux.out]at x1
  refine hK _ _ ?_
  clear hK K
  refine wpList_nil ?_
  refine And.intro ?_ ?_
  ·go_simp
  refine ae rfl rfl (fun K hK=>?_);go_simp;refine hK _ ?_;clear hK K
  refine ai ?_
  rw [HO.out]at x0
  go_wp2_with fail
  go_ret
  exact⟨by rw [tO.out,HO.out];simp [bne,Int.not_lt,beq_iff_eq];try rfl,tC.out⟩
 by_cases p6:x.op=6
 ·have HO:=BO p6
  clear p3 p4 p5 p6
  go_enter Tryz.func87,Tryz.ntmps87
  go_upto_region 1 with fail
  rw [←tk.out]
  clear tk
  generalize w.heap.size=b1 at tl ⊢
  obtain⟨x0,x1,x2,x3,x4,x5,x6,x7,x8⟩:=be tl.out
  rw [ux.out]at x1
  obtain⟨y0,y1,y2⟩:=iK tu.out HY.out
  go_upto_region 3 with fail
  have tD:=BO (bL y x.v W1.drew)
  rw [wX.out]at tD
  refine af [(0,false,7),(1,false,7),(2,false,7),(3,false,7),(4,false,7),(5,false,7),(6,false,7),(7,true,0),(8,false,999)] (by kernel_rfl) (by kernel_rfl) ?_
  iterate 7 (refine ae rfl rfl (fun K hK=>?_);go_simp;refine hK _ ?_;clear hK K)
  refine ah rfl ?_
  refine aq rfl (fun K hK=>?_)
  go_simp
  refine tD.out.mono ?_
  rintro e2 w2 ⟨rfl,hk2⟩
  have tC:=BO (tr.out.drew.trans hk2 (fun _ h=>h.elim))
  have tn:=BO ((hk2.block b1 (ax (by exact tl.out:W1.drew.heap[b1]?=_)) (fun h=>h)).trans tl.out)
  have vD:=BO (tu.out.drew.kept hk2 (fun _ _ h=>h))
  clear hk2 tD x0 x1 x2 x3 x4 x5 x6 x7 x8 y0 y1 y2
  obtain⟨x0,x1,x2,x3,x4,x5,x6,x7,x8⟩:=be tn.out
  rw [ux.out]at x1
  refine hK _ _ ?_
  clear hK K
  refine wpList_nil ?_
  refine And.intro ?_ ?_
  ·go_simp
  refine ae rfl rfl (fun K hK=>?_);go_simp;refine hK _ ?_;clear hK K
  refine ai ?_
  rw [HO.out]at x0
  go_wp2_with fail
  go_ret
  exact⟨by rw [tO.out,HO.out];simp [bne,Int.not_lt,beq_iff_eq];try rfl,tC.out⟩
 by_cases p7:x.op=7
 ·have HO:=BO p7
  clear p3 p4 p5 p6 p7
  go_enter Tryz.func87,Tryz.ntmps87
  go_upto_region 1 with fail
  rw [←tk.out]
  clear tk
  generalize w.heap.size=b1 at tl ⊢
  obtain⟨x0,x1,x2,x3,x4,x5,x6,x7,x8⟩:=be tl.out
  rw [ux.out]at x1
  obtain⟨y0,y1,y2⟩:=iK tu.out HY.out
  go_upto_region 3 with fail
  have tD:=BO (bL y x.v W1.drew)
  rw [wX.out]at tD
  refine af [(0,false,7),(1,false,7),(2,false,7),(3,false,7),(4,false,7),(5,false,7),(6,false,7),(7,true,0),(8,false,999)] (by kernel_rfl) (by kernel_rfl) ?_
  iterate 7 (refine ae rfl rfl (fun K hK=>?_);go_simp;refine hK _ ?_;clear hK K)
  refine ah rfl ?_
  refine aq rfl (fun K hK=>?_)
  go_simp
  refine tD.out.mono ?_
  rintro e2 w2 ⟨rfl,hk2⟩
  have tC:=BO (tr.out.drew.trans hk2 (fun _ h=>h.elim))
  have tn:=BO ((hk2.block b1 (ax (by exact tl.out:W1.drew.heap[b1]?=_)) (fun h=>h)).trans tl.out)
  have vD:=BO (tu.out.drew.kept hk2 (fun _ _ h=>h))
  clear hk2 tD x0 x1 x2 x3 x4 x5 x6 x7 x8 y0 y1 y2
  obtain⟨x0,x1,x2,x3,x4,x5,x6,x7,x8⟩:=be tn.out
  rw [ux.out]at x1
  refine hK _ _ ?_
  clear hK K
  refine wpList_nil ?_
  refine And.intro ?_ ?_
  ·go_simp
  refine ae rfl rfl (fun K hK=>?_);go_simp;refine hK _ ?_;clear hK K
  refine ai ?_
  rw [HO.out]at x0
  go_wp2_with fail
  go_ret
  exact⟨by rw [tO.out,HO.out];simp [bne,Int.not_lt,beq_iff_eq];try rfl,tC.out⟩
 by_cases p8:x.op=8
 ·have HO:=BO p8
  clear p3 p4 p5 p6 p7 p8
  go_enter Tryz.func87,Tryz.ntmps87
  go_upto_region 1 with fail
  rw [←tk.out]
  clear tk
  generalize w.heap.size=b1 at tl ⊢
  obtain⟨x0,x1,x2,x3,x4,x5,x6,x7,x8⟩:=be tl.out
  rw [ux.out]at x1
  obtain⟨y0,y1,y2⟩:=iK tu.out HY.out
  go_upto_region 3 with fail
  have tD:=BO (bL y x.v W1.drew)
  rw [wX.out]at tD
  refine af [(0,false,7),(1,false,7),(2,false,7),(3,false,7),(4,false,7),(5,false,7),(6,false,7),(7,true,0),(8,false,999)] (by kernel_rfl) (by kernel_rfl) ?_
  iterate 7 (refine ae rfl rfl (fun K hK=>?_);go_simp;refine hK _ ?_;clear hK K)
  refine ah rfl ?_
  refine aq rfl (fun K hK=>?_)
  go_simp
  refine tD.out.mono ?_
  rintro e2 w2 ⟨rfl,hk2⟩
  have tC:=BO (tr.out.drew.trans hk2 (fun _ h=>h.elim))
  have tn:=BO ((hk2.block b1 (ax (by exact tl.out:W1.drew.heap[b1]?=_)) (fun h=>h)).trans tl.out)
  have vD:=BO (tu.out.drew.kept hk2 (fun _ _ h=>h))
  clear hk2 tD x0 x1 x2 x3 x4 x5 x6 x7 x8 y0 y1 y2
  obtain⟨x0,x1,x2,x3,x4,x5,x6,x7,x8⟩:=be tn.out
  rw [ux.out]at x1
  refine hK _ _ ?_
  clear hK K
  refine wpList_nil ?_
  refine And.intro ?_ ?_
  ·go_simp
  refine ae rfl rfl (fun K hK=>?_);go_simp;refine hK _ ?_;clear hK K
  refine ai ?_
  rw [HO.out]at x0
  go_wp2_with fail
  go_ret
  exact⟨by rw [tO.out,HO.out];simp [bne,Int.not_lt,beq_iff_eq];try rfl,tC.out⟩
 have n3:(x.op == 3)=false:=by simpa using p3
 have n4:(x.op == 4)=false:=by simpa using p4
 have n5:(x.op == 5)=false:=by simpa using p5
 have n6:(x.op == 6)=false:=by simpa using p6
 have n7:(x.op == 7)=false:=by simpa using p7
 have n8:(x.op == 8)=false:=by simpa using p8
 have HR:=BO (show fY x.op x.col x.v x.w r=(decide (0≤c)&&decide (aj y x.w≤0)) by rw [tO.out,if_neg p3,if_neg p4,if_neg p5,if_neg p6,if_neg p7,if_neg p8])
 clear p3 p4 p5 p6 p7 p8
 by_cases hc0:0≤c
 ·have hc1:c ≥ 0:=hc0
  go_enter Tryz.func87,Tryz.ntmps87
  go_upto_region 1 with fail
  rw [←tk.out]
  clear tk
  generalize w.heap.size=b1 at tl ⊢
  obtain⟨x0,x1,x2,x3,x4,x5,x6,x7,x8⟩:=be tl.out
  rw [ux.out]at x1
  obtain⟨y0,y1,y2⟩:=iK tu.out HY.out
  go_upto_region 3 with fail
  have tD:=BO (bL y x.v W1.drew)
  rw [wX.out]at tD
  refine af [(0,false,7),(1,false,7),(2,false,7),(3,false,7),(4,false,7),(5,false,7),(6,false,7),(7,true,0),(8,false,999)] (by kernel_rfl) (by kernel_rfl) ?_
  iterate 7 (refine ae rfl rfl (fun K hK=>?_);go_simp;refine hK _ ?_;clear hK K)
  refine ah rfl ?_
  refine aq rfl (fun K hK=>?_)
  go_simp
  refine tD.out.mono ?_
  rintro e2 w2 ⟨rfl,hk2⟩
  have tC:=BO (tr.out.drew.trans hk2 (fun _ h=>h.elim))
  have tn:=BO ((hk2.block b1 (ax (by exact tl.out:W1.drew.heap[b1]?=_)) (fun h=>h)).trans tl.out)
  have vD:=BO (tu.out.drew.kept hk2 (fun _ _ h=>h))
  clear hk2 tD x0 x1 x2 x3 x4 x5 x6 x7 x8 y0 y1 y2
  obtain⟨x0,x1,x2,x3,x4,x5,x6,x7,x8⟩:=be tn.out
  rw [ux.out]at x1
  refine hK _ _ ?_
  clear hK K
  refine wpList_nil ?_
  refine And.intro ?_ ?_
  ·go_simp
  refine ae rfl rfl (fun K hK=>?_);go_simp;refine hK _ ?_;clear hK K
  refine ai ?_
  obtain⟨y0,y1,y2⟩:=iK vD.out HY.out
  go_upto_region 17 with fail
  obtain⟨d,hd⟩:∃d,aj y x.w=d:=⟨_,rfl⟩
  have AT:=BO hd
  have yh:=BO (bL y x.w w2.drew)
  rw [AT.out]at yh
  clear hd
  refine af [(0,false,10),(1,false,10),(2,false,10),(3,false,10),(4,false,10),(5,false,10),(6,false,10),(7,false,10),(8,false,10),(9,false,10),(10,true,0),(11,false,999),(12,false,999),(13,false,999)] (by kernel_rfl) (by kernel_rfl) ?_
  iterate 3 (refine ae rfl rfl (fun K hK=>?_);go_simp;refine hK _ ?_;clear hK K)
  iterate 7 (first|(refine ar rfl rfl ?_;simp only [Act.put,BP,BQ,BR,BS,BT,BU])|(refine al rfl rfl (fun K hK=>?_);go_simp;refine hK _ ?_;clear hK K))
  refine ah rfl ?_
  refine aq rfl (fun K hK=>?_)
  go_simp
  refine yh.out.mono ?_
  rintro e3 w3 ⟨rfl,hk3⟩
  have v6:=BO (tC.out.drew.trans hk3 (fun _ h=>h.elim))
  clear hk3 yh
  refine hK _ _ ?_
  clear hK K
  refine wpList_nil ?_
  refine And.intro ?_ ?_
  ·go_simp
  first|(refine ar rfl rfl ?_;simp only [Act.put,BP,BQ,BR,BS,BT,BU])|(refine al rfl rfl (fun K hK=>?_);go_simp;refine hK _ ?_;clear hK K)
  iterate 2 (refine ae rfl rfl (fun K hK=>?_);go_simp;refine hK _ ?_;clear hK K)
  refine ai ?_
  go_wp2_with fail
  go_ret
  exact⟨by rw [HR.out,AT.out];simp [hc0],v6.out⟩
 ·have hc1:¬c ≥ 0:=hc0
  go_enter Tryz.func87,Tryz.ntmps87
  go_upto_region 1 with fail
  rw [←tk.out]
  clear tk
  generalize w.heap.size=b1 at tl ⊢
  obtain⟨x0,x1,x2,x3,x4,x5,x6,x7,x8⟩:=be tl.out
  rw [ux.out]at x1
  obtain⟨y0,y1,y2⟩:=iK tu.out HY.out
  go_upto_region 3 with fail
  have tD:=BO (bL y x.v W1.drew)
  rw [wX.out]at tD
  refine af [(0,false,7),(1,false,7),(2,false,7),(3,false,7),(4,false,7),(5,false,7),(6,false,7),(7,true,0),(8,false,999)] (by kernel_rfl) (by kernel_rfl) ?_
  iterate 7 (refine ae rfl rfl (fun K hK=>?_);go_simp;refine hK _ ?_;clear hK K)
  refine ah rfl ?_
  refine aq rfl (fun K hK=>?_)
  go_simp
  refine tD.out.mono ?_
  rintro e2 w2 ⟨rfl,hk2⟩
  have tC:=BO (tr.out.drew.trans hk2 (fun _ h=>h.elim))
  have tn:=BO ((hk2.block b1 (ax (by exact tl.out:W1.drew.heap[b1]?=_)) (fun h=>h)).trans tl.out)
  have vD:=BO (tu.out.drew.kept hk2 (fun _ _ h=>h))
  clear hk2 tD x0 x1 x2 x3 x4 x5 x6 x7 x8 y0 y1 y2
  obtain⟨x0,x1,x2,x3,x4,x5,x6,x7,x8⟩:=be tn.out
  rw [ux.out]at x1
  refine hK _ _ ?_
  clear hK K
  refine wpList_nil ?_
  refine And.intro ?_ ?_
  ·go_simp
  refine ae rfl rfl (fun K hK=>?_);go_simp;refine hK _ ?_;clear hK K
  refine ai ?_
  go_upto_region 17 with fail
  refine af [(0,false,10),(1,false,10),(2,false,10),(3,false,10),(4,false,10),(5,false,10),(6,false,10),(7,false,10),(8,false,10),(9,false,10),(10,true,0),(11,false,999),(12,false,999),(13,false,999)] (by kernel_rfl) (by kernel_rfl) ?_
  iterate 3 (refine ae rfl rfl (fun K hK=>?_);go_simp;refine hK _ ?_;clear hK K)
  iterate 7 (first|(refine ar rfl rfl ?_;simp only [Act.put,BP,BQ,BR,BS,BT,BU])|(refine al rfl rfl (fun K hK=>?_);go_simp;refine hK _ ?_;clear hK K))
  refine ah rfl ?_
  refine bJ rfl ?_
  simp only [Act.put,BP,BQ,BR]
  refine wpList_nil ?_
  refine And.intro ?_ ?_
  ·go_simp
  first|(refine ar rfl rfl ?_;simp only [Act.put,BP,BQ,BR,BS,BT,BU])|(refine al rfl rfl (fun K hK=>?_);go_simp;refine hK _ ?_;clear hK K)
  iterate 2 (refine ae rfl rfl (fun K hK=>?_);go_simp;refine hK _ ?_;clear hK K)
  refine ai ?_
  go_wp2_with fail
  go_ret
  exact⟨by rw [HR.out,decide_eq_false (Int.not_le.mpr hc0)];rfl,tC.out.drew⟩
end Go.Proofs.YtdobimafhbfkhaaGreat
