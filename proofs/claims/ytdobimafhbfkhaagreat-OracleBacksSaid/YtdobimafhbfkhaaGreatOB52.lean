/- Joined texts: What lies between a savepoint and going back to it, as data. What is done between a savepoint and going back to it leaves no row changed (OracleBacks): the walk. -/
import Derived.Test.YtdobimafhbfkhaaGreatOB50
import Derived.Test.YtdobimafhbfkhaaGreatOB51
set_option maxHeartbeats 64000000
namespace Go.Proofs.YtdobimafhbfkhaaGreat
set_option linter.unusedSimpArgs false
theorem nI (T:List ar)(l1 l2:List BefM):bK T (l1++l2)=bK (bK T l2) l1:=by unfold bK;rw [List.reverse_append,List.foldl_append]
def kP (X Y:TxM):Prop:=bK Y.tabs Y.log=bK X.tabs X.log
theorem qm {X Y:TxM}{b:BefM}(hl:Y.log=X.log ++ [b])(ht:eN Y.tabs b=X.tabs):kP X Y:=by unfold kP;rw [hl,mO,ht]
section
variable {X : TxM} {i : Nat} {cc : List Bool} {m : ar}
theorem put_E (hm:X.tabs[i]?=some m)(hI:TabI cc m){r:List Val}(hr:bw cc r=true):kP X (X.put (i:Int) r):=by
 have e1:X.tab (i:Int)=m:=dM hm
 refine qm (b:=⟨(i:Int),aG r,(aU m (aG r)).getD []⟩) ?_ ?_
 ·show X.log ++ [_]=_;rw [e1]
 ·show eN (X.tabs.set (i:Int).toNat (cA (X.tab i) r)) _=_
  rw [e1,Int.toNat_natCast];exact oN hm hI hr
theorem out_E (hm:X.tabs[i]?=some m)(hI:TabI cc m){k:Val}(hk:al k=true):kP X (X.out (i:Int) k):=by
 have e1:X.tab (i:Int)=m:=dM hm
 refine qm (b:=⟨(i:Int),k,(aU m k).getD []⟩) ?_ ?_
 ·show X.log ++ [_]=_;rw [e1]
 ·show eN (X.tabs.set (i:Int).toNat (dj (X.tab i) k)) _=_
  rw [e1,Int.toNat_natCast];exact oC hm hI hk
end
theorem sP {i:Nat}{cc:List Bool}:∀(fr:ar) (Y:TxM) (m:ar),Y.tabs[i]?=some m→TabI cc m→(∀q∈fr,bw cc q=true∧bD q)→kP Y (fr.foldl (fun y r=>y.put (i:Int) r) Y)∧(fr.foldl (fun y r=>y.put (i:Int) r) Y).saves=Y.saves
 | [],Y,m,_,_,_=>⟨rfl,rfl⟩
 | r::fr,Y,m,hm,hI,hf=>by
  obtain⟨f1,f2⟩:=hf r (List.mem_cons_self ..)
  have hlt:=(List.getElem?_eq_some_iff.1 hm).1
  have e1:Y.tab (i:Int)=m:=dM hm
  have hm2:(Y.put (i:Int) r).tabs[i]?=some (cA m r):=by
   show(Y.tabs.set (i:Int).toNat (cA (Y.tab i) r))[i]?=_
   rw [Int.toNat_natCast,List.getElem?_set_self hlt,e1]
  obtain⟨g1,g2⟩:=sP fr (Y.put (i:Int) r) (cA m r) hm2 (hI.put f1 f2) (fun q hq=>hf q (List.mem_cons_of_mem _ hq))
  exact⟨g1.trans (put_E hm hI f1),g2⟩
theorem rN {i:Nat}{cc:List Bool}:∀(ks:ar) (Y:TxM) (m:ar),Y.tabs[i]?=some m→TabI cc m→(∀q∈ks,al (aG q)=true)→kP Y (ks.foldl (fun y r=>y.out (i:Int) (aG r)) Y)∧(ks.foldl (fun y r=>y.out (i:Int) (aG r)) Y).saves=Y.saves
 | [],Y,m,_,_,_=>⟨rfl,rfl⟩
 | r::ks,Y,m,hm,hI,hf=>by
  have hlt:=(List.getElem?_eq_some_iff.1 hm).1
  have e1:Y.tab (i:Int)=m:=dM hm
  have hm2:(Y.out (i:Int) (aG r)).tabs[i]?=some (dj m (aG r)):=by
   show(Y.tabs.set (i:Int).toNat (dj (Y.tab i) (aG r)))[i]?=_
   rw [Int.toNat_natCast,List.getElem?_set_self hlt,e1]
  obtain⟨g1,g2⟩:=rN ks (Y.out (i:Int) (aG r)) (dj m (aG r)) hm2 (hI.del _) (fun q hq=>hf q (List.mem_cons_of_mem _ hq))
  exact⟨g1.trans (out_E hm hI (hf r (List.mem_cons_self ..))),g2⟩
structure BackI (T0:List ar)(k:Nat)(X:TxM):Prop where
 undo:bK X.tabs X.log=T0
 one:X.saves[k]?=some 1
section
variable {T0 : List ar} {k n c : Nat} {X : TxM} {s : StmM}
theorem BackI.of (h:BackI T0 k X){Y:TxM}(he:kP X Y)(hs:Y.saves=X.saves):BackI T0 k Y:=⟨Eq.trans he h.undo,by rw [hs];exact h.one⟩
theorem BackI.all (h:BackI T0 k X)(hI:TxI n c X){i:Nat}(hi:i<X.cols.length){l:ar}{sets:List SetM}(hs:∀s∈sets,s.v.fit)(hl:∀m,X.tabs[i]?=some m→∀q∈l,q∈m):BackI T0 k (X.all (i:Int) l sets).1:=by
 obtain⟨cc,m,hc,hm,hT,h200,hmn,_⟩:=hI.tab hi
 unfold TxM.all
 rw [lk hc]
 split
 ·next h0 =>
  obtain⟨fr,hfr⟩:∃fr,cz cc sets l []=(fr,0):=⟨(cz cc sets l []).1,by rw [←h0]⟩
  have hfit:=gt (m:=m) hs (fun q hq=>⟨hT.fits q (hl m hm q hq),hT.fit q (hl m hm q hq),ee.2 ⟨q,hl m hm q hq,rfl⟩⟩) (fun q hq=>by cases hq) hfr
  rw [hfr]
  obtain⟨g1,g2⟩:=sP fr X m hm hT (fun q hq=>⟨(hfit q hq).1,(hfit q hq).2.1⟩)
  exact h.of g1 g2
 ·exact h
theorem BackI.one_ (h:BackI T0 k X)(hI:TxI n c X){i:Nat}(hi:i<X.cols.length){key:Val}{sets:List SetM}(hs:∀s∈sets,s.v.fit):BackI T0 k (X.one (i:Int) key sets).1:=by
 obtain⟨cc,m,hc,hm,hT,h200,hmn,_⟩:=hI.tab hi
 unfold TxM.one
 rw [dM hm]
 cases hf:aU m key with
 | none=>exact h
 | some r =>
  refine h.all hI hi hs (fun m' hm' q hq=>?_)
  rw [hm]at hm'
  cases hm'
  obtain rfl:=List.mem_singleton.1 hq
  exact(dA hf).1
theorem BackI.drop (h:BackI T0 k X)(hI:TxI n c X){i:Nat}(hi:i<X.cols.length){key:Val}(hk:al key=true):BackI T0 k (X.drop (i:Int) key).1:=by
 obtain⟨cc,m,hc,hm,hT,h200,hmn,_⟩:=hI.tab hi
 unfold TxM.drop
 rw [dM hm]
 cases hf:aU m key with
 | none=>exact h
 | some r=>exact h.of (out_E hm hT hk) rfl
theorem BackI.back (h:BackI T0 k X)(hI:TxI n c X){j:Nat}(hj:j<4):BackI T0 k (X.back (j:Int)).1:=by
 obtain⟨v,hv⟩:∃v,X.saves[j]?=some v:=⟨X.saves[j]'(by rw [hI.two.1];exact hj),List.getElem?_eq_getElem _⟩
 have h0:=hI.saves v (List.mem_of_getElem? hv)
 unfold TxM.back
 rw [Int.toNat_natCast,List.getD_eq_getElem?_getD,hv,Option.getD_some]
 by_cases hz:v=0
 ·rw [if_pos hz];exact h
 ·rw [if_neg hz]
  refine⟨?_,?_⟩
  ·show bK (bK X.tabs (X.log.drop (v-1).toNat)) (X.log.take (v-1).toNat)=T0
   rw [←nI,List.take_append_drop];exact h.undo
  ·show(X.saves.map (fun m=>if v<m then 0 else m))[k]?=some 1
   rw [List.getElem?_map,h.one,Option.map_some,if_neg (by omega)]
theorem BackI.fetch (h:BackI T0 k X)(q:Int):BackI T0 k (X.fetch q).1:=by
 unfold TxM.fetch
 split
 ·exact h
 ·split
  ·exact h.of rfl rfl
  ·exact h.of rfl rfl
theorem BackI.at_ (h:BackI T0 k X)(hI:TxI n c X){j:Nat}(hi:s.cursor=(j:Int))(hk:j<3)(hs:∀q∈s.sets,q.v.fit):BackI T0 k (X.at_ s).1:=by
 obtain⟨m,hm,hcm,hcur⟩:=hI.cur hk
 unfold TxM.at_
 rw [hi,hcm]
 split
 ·exact h
 ·next hno =>
  have hop:m.opn=true:=by cases h1:m.opn<;>simp [h1]at hno ⊢
  have hst:m.stands=true:=by cases h1:m.stands<;>simp [h1]at hno ⊢
  obtain⟨⟨i,hti,hil⟩,hkey⟩:=hcur hop
  rw [hti]
  split
  ·exact h.drop hI hil (hkey hst)
  ·split
   ·exact h
   ·exact h.one_ hI hil hs
theorem BackI.step (h:BackI T0 k X)(hI:TxI n c X)(hs:∀q∈s.sets,q.v.fit)(hx:¬((s.kind=4∨s.kind=5)∧s.save=(k:Int))):BackI T0 k (cu X s).1:=by
 unfold cu
 cases hok:okS X.cols s with
 | false=>exact h
 | true =>
  have hr:=iQ hok
  rw [if_neg (show ¬((!true)=true) by decide)]
  by_cases hk:s.kind=4
  ·rw [if_pos hk]
   obtain⟨j,hj1,hj2⟩:=i4 hok (.inl hk)
   refine⟨h.undo,?_⟩
   show(X.saves.set s.save.toNat _)[k]?=some 1
   rw [List.getElem?_set_ne (by rw [hj1,Int.toNat_natCast];intro e;exact hx ⟨.inl hk,by rw [hj1,e]⟩)]
   exact h.one
  rw [if_neg hk]
  have hn4:=hk
  clear hk
  by_cases hk:s.kind=5
  ·rw [if_pos hk]
   obtain⟨j,hj1,hj2⟩:=i4 hok (.inr hk)
   rw [hj1]
   exact h.back hI hj2
  rw [if_neg hk]
  have hn5:=hk
  clear hk
  by_cases hk:s.kind=6
  ·rw [if_pos hk];exact h
  rw [if_neg hk]
  have hn6:=hk
  clear hk
  by_cases hk:s.kind=7
  ·rw [if_pos hk]
   obtain⟨i,cc,hti,hc,hm,he⟩:=dK hok (.inr (.inl hk))
   have hi:=(List.getElem?_eq_some_iff.1 hc).1
   obtain⟨cc',m,hc',hmt,hT,h200,hmn,_⟩:=hI.tab hi
   rw [hc]at hc'
   cases hc'
   have hfit:bw cc s.row=true:=by rw [hok]at he;rw [hk]at he;simpa [okK]using he
   split
   ·exact h
   ·rw [hti];exact h.of (put_E hmt hT hfit) rfl
  rw [if_neg hk]
  have hn7:=hk
  clear hk
  by_cases hk:s.kind=8
  ·rw [if_pos hk]
   obtain⟨i,cc,hti,hc,hm,he⟩:=dK hok (.inr (.inr (.inl hk)))
   rw [hti]
   exact h.one_ hI (List.getElem?_eq_some_iff.1 hc).1 hs
  rw [if_neg hk]
  have hn8:=hk
  clear hk
  by_cases hk:s.kind=9
  ·rw [if_pos hk]
   obtain⟨i,cc,hti,hc,hm,he⟩:=dK hok (.inr (.inr (.inr (.inl hk))))
   rw [hti]
   have hkr:al s.key=true:=by rw [hok]at he;rw [hk]at he;simp [okK]at he;exact he.1
   exact h.drop hI (List.getElem?_eq_some_iff.1 hc).1 hkr
  rw [if_neg hk]
  have hn9:=hk
  clear hk
  by_cases hk:s.kind=10
  ·rw [if_pos hk];exact h
  rw [if_neg hk]
  have hn10:=hk
  clear hk
  by_cases hk:s.kind=11
  ·rw [if_pos hk]
   obtain⟨i,cc,hti,hc,hm,he⟩:=dK hok (.inr (.inr (.inr (.inr (.inr (.inl hk))))))
   have hi:=(List.getElem?_eq_some_iff.1 hc).1
   obtain⟨cc',m,hc',hmt,hT,h200,hmn,_⟩:=hI.tab hi
   rw [hti,cX hmt]
   exact h.all hI hi hs (fun m' hm' q hq=>by rw [hmt]at hm';cases hm';exact ec hq)
  rw [if_neg hk]
  have hn11:=hk
  clear hk
  by_cases hk:s.kind=12
  ·rw [if_pos hk]
   obtain⟨i,cc,hti,hc,hm,he⟩:=dK hok (.inr (.inr (.inr (.inr (.inr (.inr (.inl hk)))))))
   have hi:=(List.getElem?_eq_some_iff.1 hc).1
   obtain⟨cc',m,hc',hmt,hT,h200,hmn,_⟩:=hI.tab hi
   rw [hti,cX hmt]
   obtain⟨g1,g2⟩:=rN (cL m s.pred bZ) X m hmt hT (fun q hq=>hT.keys q (ec hq))
   exact h.of g1 g2
  rw [if_neg hk]
  have hn12:=hk
  clear hk
  by_cases hk:s.kind=13
  ·rw [if_pos hk];exact h.of rfl rfl
  rw [if_neg hk]
  have hn13:=hk
  clear hk
  have h14:13≤s.kind:=by omega
  obtain⟨j,hk1,hk2⟩:=mZ hok h14
  by_cases hk:s.kind=14
  ·rw [if_pos hk];exact h.fetch _
  rw [if_neg hk]
  have hn14:=hk
  clear hk
  by_cases hk:s.kind=17
  ·rw [if_pos hk]
   cases (X.cur s.cursor).opn
   ·exact h
   ·exact h.of rfl rfl
  ·rw [if_neg hk];exact h.at_ hI hk1 hk2 hs
end
theorem BackI.steps {T0:List ar}{k:Nat}:∀(l:List StmM) {n c:Nat} {X:TxM},BackI T0 k X→TxI n c X→(∀s∈l,bD s.row∧∀q∈s.sets,q.v.fit)→(∀s∈l,¬((s.kind=4∨s.kind=5)∧s.save=(k:Int)))→n+c+l.length≤150→BackI T0 k (bY X l).1
 | [],_,_,_,h,_,_,_,_=>h
 | s::l,n,c,X,h,hI,hf,hx,hn=>by
  rw [List.length_cons]at hn
  obtain⟨f1,f2⟩:=hf s (List.mem_cons_self ..)
  obtain⟨n1,c1,e1,le1,h1⟩:=hI.step f1 f2 (by omega)
  exact BackI.steps l (h.step hI f2 (hx s (List.mem_cons_self ..))) h1 (fun q hq=>hf q (List.mem_cons_of_mem _ hq)) (fun q hq=>hx q (List.mem_cons_of_mem _ hq)) (by omega)
theorem rW {m:Nat}{O:OrM}(h:OrI m O){n:Nat}(h1:1≤n)(h3:n≤3){ss:List StmM}(hf:∀s∈ss,bD s.row∧∀q∈s.sets,q.v.fit)(hx:∀s∈ss,¬((s.kind=4∨s.kind=5)∧s.save=(n:Int)))(hn:m+ss.length+2≤150)(a b:StmM)(ha:a.kind=4∧a.save=(n:Int))(hb:b.kind=5∧b.save=(n:Int))(hfa:bD a.row∧∀q∈a.sets,q.v.fit) :
  (O.run (a::ss ++ [b])).1.tabs=O.tabs∧∃l,(O.run (a::ss ++ [b])).2=cd 0::l ++ [cd 0]:=by
 have hsa:cu (bN O.cols O.tabs) a=({ bN O.cols O.tabs with saves:=(bN O.cols O.tabs).saves.set n 1 },cd 0):=by
  have hok:okS (bN O.cols O.tabs).cols a=true:=by
   unfold okS
   simp only [ha.1,ha.2,true_or,if_true,Bool.and_eq_true,decide_eq_true_eq]
   omega
  unfold cu
  rw [hok,if_neg (show ¬((!true)=true) by decide),if_pos ha.1,ha.2,Int.toNat_natCast]
  rfl
 have hI:=h.start
 obtain⟨n1,c1,e1,le1,hI1⟩:=hI.step hfa.1 hfa.2 (s:=a) (by omega)
 rw [hsa]at hI1
 have hB:BackI O.tabs n { bN O.cols O.tabs with saves:=(bN O.cols O.tabs).saves.set n 1 }:=by
  refine⟨rfl,?_⟩
  show((bN O.cols O.tabs).saves.set n 1)[n]?=some 1
  rw [List.getElem?_set_self (show n<4 by omega)]
 have hB2:=hB.steps ss hI1 hf hx (by omega)
 have hrun:O.run (a::ss ++ [b])=(⟨O.cols,(cu (bY { bN O.cols O.tabs with saves:=(bN O.cols O.tabs).saves.set n 1 } ss).1 b).1.tabs⟩,cd 0::((bY { bN O.cols O.tabs with saves:=(bN O.cols O.tabs).saves.set n 1 } ss).2 ++ [(cu (bY { bN O.cols O.tabs with saves:=(bN O.cols O.tabs).saves.set n 1 } ss).1 b).2])):=by
  unfold OrM.run
  have e:bY (bN O.cols O.tabs) (a::ss ++ [b])=((bY (cu (bN O.cols O.tabs) a).1 (ss ++ [b])).1,(cu (bN O.cols O.tabs) a).2::(bY (cu (bN O.cols O.tabs) a).1 (ss ++ [b])).2):=rfl
  rw [e,hsa,ir]
 rw [hrun]
 generalize (bY { bN O.cols O.tabs with saves:=(bN O.cols O.tabs).saves.set n 1 } ss).1=X at *
 have hsb:cu X b=X.back n:=by
  have hok:okS X.cols b=true:=by
   unfold okS
   simp only [hb.1,hb.2,or_true,if_true,Bool.and_eq_true,decide_eq_true_eq]
   omega
  unfold cu
  rw [hok,if_neg (show ¬((!true)=true) by decide),if_neg (by rw [hb.1];decide),if_pos hb.1,hb.2]
 have hbk:X.back (n:Int)=({ X with tabs:=bK X.tabs (X.log.drop 0),log:=X.log.take 0,saves:=X.saves.map (fun m=>if (1:Int)<m then 0 else m) },cd 0):=by
  unfold TxM.back
  rw [Int.toNat_natCast,List.getD_eq_getElem?_getD,hB2.one,Option.getD_some,if_neg (by decide)]
  rfl
 rw [hsb,hbk]
 exact⟨hB2.undo,_,rfl⟩
end Go.Proofs.YtdobimafhbfkhaaGreat
namespace Go.Proofs.YtdobimafhbfkhaaGreat
open Go.ChangeShapes Go.WideShapes Go.ChangeAt Go.RowKit
set_option maxRecDepth 100000
set_option linter.unusedSimpArgs false
theorem RdP.cut {D:PH}{size:Nat}{ao:Option Addr}{n cap:Nat}{xs:List Value}(h:RdP D size (.slice ao n cap) n xs){lo hi:Nat}(h1:lo≤hi)(h2:hi≤n):RdP D size (sliced ao lo hi cap size) (hi-lo) ((xs.take (hi*size)).drop (lo*size)):=by
 obtain⟨a1,a2,ao',cap',h3,h4,h5,h6,h7⟩:=h
 cases h3
 have e1:hi*size≤n*size:=Nat.mul_le_mul_right _ h2
 refine⟨by rw [List.length_drop,List.length_take,a1,Nat.min_eq_left e1,Nat.sub_mul],by omega,_,cap-lo,rfl,by omega,by omega,?_,?_⟩
 ·intro h
  split at h
  ·omega
  ·have:ao=none:=by cases ao with
    | none=>rfl
    | some x=>cases h
   have:=h6 this
   omega
 ·by_cases hc:cap=lo
  ·exact .inl (by omega)
  ·rcases h7 with h7|⟨g,o,rfl,cs,t,fr,h8,h9⟩
   ·exact .inl (by omega)
   ·refine .inr ⟨g,o+lo*size,by rw [if_neg hc];simp [Addr.add],cs,t,fr,h8,fun j u hu=>?_⟩
    rw [List.getElem?_drop,List.getElem?_take]at hu
    split at hu
    ·rw [Nat.add_assoc];exact h9 _ u hu
    ·cases hu
theorem TxnL.cut {D:PH}{ao:Option Addr}{N cap:Nat}{t:List StmM}{ts:List (List StmM)}(h:TxnL D (.slice ao N cap) (t::ts)):TxnL D (sliced ao 1 N cap 2) ts:=by
 have hn:=h.len
 obtain⟨es,h1,h2⟩:=h
 have hl:=h1.len
 obtain _|⟨ha,h1⟩:=h1
 rename_i a es
 simp only [List.length_cons]at hl hn
 have e:N=es.length+1:=by omega
 rw [List.length_cons,←e]at h2
 have hc:=h2.cut (lo:=1) (hi:=N) (by omega) (Nat.le_refl N)
 refine⟨es,h1,?_⟩
 have e2:N-1=es.length:=by omega
 rw [e2,List.take_of_length_le (by rw [h2.1];exact Nat.le_refl _),List.flatMap_cons,List.drop_append_of_le_length (by rw [TxnE.len];exact Nat.le_refl _),List.drop_of_length_le (by rw [TxnE.len];exact Nat.le_refl _),List.nil_append]at hc
 exact hc
def BehP (B:World)(D:PH)(l:List HP)(cols:List (List Bool))(ts:List (List StmM))(p:Option Addr)(w':World):Prop:=∃D',PH.le D D'∧if ff cols then ∃o,p=some ⟨o,0,none⟩∧Sat B D' w' (orP D' o (ju (eS cols) ts)::l)else p=none∧Sat B D' w' l
theorem BehAns.ptr {B:World}{D:PH}{l:List HP}{cols:List (List Bool)}{ts:List (List StmM)}{e:Ending}{w':World}(h:BehAns B D l cols ts e w'):∃p,e = .returned (.pointer p)∧BehP B D l cols ts p w':=by
 obtain⟨D1,le1,hif⟩:=h
 cases hm:ff cols with
 | true =>
  rw [hm,if_pos rfl]at hif
  obtain⟨o,rfl,hs⟩:=hif
  exact⟨_,rfl,D1,le1,by rw [hm,if_pos rfl];exact⟨o,rfl,hs⟩⟩
 | false =>
  rw [hm,if_neg (by decide)]at hif
  obtain⟨rfl,hs⟩:=hif
  exact⟨_,rfl,D1,le1,by rw [hm,if_neg (by decide)];exact⟨rfl,hs⟩⟩
def ew (n:Int)(s:StmM):Bool:=!((decide (s.kind=4)||decide (s.kind=5))&&decide (s.save=n))
theorem i7 {n:Int}{s:StmM}:ew n s=true↔¬((s.kind=4∨s.kind=5)∧s.save=n):=by
 unfold ew
 simp only [Bool.not_eq_true',Bool.and_eq_false_iff,Bool.or_eq_false_iff,decide_eq_false_iff_not]
 constructor
 ·rintro(⟨h1,h2⟩|h) ⟨h3,h4⟩
  ·rcases h3 with h3|h3
   ·exact h1 h3
   ·exact h2 h3
  ·exact h h4
 ·intro h
  by_cases h4:s.save=n
  ·exact .inl ⟨fun h1=>h ⟨.inl h1,h4⟩,fun h1=>h ⟨.inr h1,h4⟩⟩
  ·exact .inr h4
theorem tk {n:Int}{s:StmM}(h:ew n s=false):(s.kind=4∨s.kind=5)∧s.save=n:=by
 refine Classical.byContradiction fun hn=>?_
 rw [i7.2 hn]at h
 cases h
def gd (k n:Int):StmE:=⟨k,0,0,key0,⟨none,0,0⟩,⟨none,0,0⟩,pe0,n,0,false⟩
def gg (k n:Int):StmM:=⟨k,0,0,key0,[],[],pe0.p,n,0,false⟩
theorem qo (D:PH)(k n:Int):StmOk D (gd k n) (gg k n) :=
 ⟨rfl,rfl,rfl,⟨RdP.nil _ _,by intro v hv;cases hv⟩,⟨RdP.nil _ _,by intro v hv;cases hv⟩,rfl,.mk _ [] (RdP.nil _ _) (by intro v hv;cases hv),rfl,rfl,rfl,qP⟩
def fy (n:Int)(ss:List StmM):List StmM:=gg 4 n::ss.filter (ew n) ++ [gg 5 n]
theorem lM {n:Int}{ss:List StmM}{s:StmM}(h:s∈fy n ss):s=gg 4 n∨s∈ss∨s=gg 5 n:=by
 unfold fy at h
 rcases List.mem_append.1 h with h|h
 ·rcases List.mem_cons.1 h with h|h
  ·exact .inl h
  ·exact .inr (.inl (List.mem_filter.1 h).1)
 ·exact .inr (.inr (List.mem_singleton.1 h))
theorem j7 (k n:Int):bD (gg k n).row∧∀q∈(gg k n).sets,q.v.fit:=⟨fun v hv=>(by cases hv),fun v hv=>(by cases hv)⟩
theorem rB {n:Int}{ss:List StmM}(h:∀s∈ss,bD s.row∧∀q∈s.sets,q.v.fit):∀s∈fy n ss,bD s.row∧∀q∈s.sets,q.v.fit:=fun s hs=>by
 rcases lM hs with rfl|hs|rfl
 ·exact j7 _ _
 ·exact h s hs
 ·exact j7 _ _
theorem rU {w:World}{v u:Value}{n:Int}{cols:List (List Bool)}{ts:List (List StmM)}(ht:TblsAt (aH w) v cols)(hx:TxnL (aH w) u ts) :
  Calls Tryz.prog 5 #[v,u,.int .i64 n] w fun r w'=>r = .returned (.bool true)∧Kept (fun _=>False) w w':=by
 obtain⟨va,vc,rfl⟩:∃a c,v = .slice a cols.length c:=by obtain⟨us,_,_,h3,_⟩:=ht;obtain⟨a,c,h⟩:=h3.shape;exact⟨a,c,h⟩
 obtain⟨ua,uc,rfl⟩:∃a c,u = .slice a ts.length c:=by
  obtain⟨a,m,c,rfl⟩:∃a m c,u = .slice a m c:=by obtain⟨es,_,h2⟩:=hx;obtain⟨a,c,h3⟩:=h2.shape;exact⟨a,_,c,h3⟩
  exact⟨a,c,by rw [hx.len]⟩
 have tD:=B5 (Sat.start w)
 have HT:=B5 ht
 have HX:=B5 hx
 obtain⟨N,hN⟩:∃N,cols.length=N:=⟨_,rfl⟩
 rw [hN]at HT ⊢
 have HN:=B5 hN
 clear ht hx hN
 go_enter Tryz.func5,Tryz.ntmps5
 go_wp2_with fail
 refine(tA w).mono ?_
 rintro e2 w2 ⟨rfl,hk2⟩
 have tL:=B5 (tD.out.kept hk2)
 clear hk2 tD
 go_wp2_with fail
 refine(te (HX.out.mono tL.out.pool)).mono ?_
 rintro e3 w3 ⟨b1,rfl,hb1,hk3⟩
 have tH:=B5 (tL.out.kept hk3)
 have tF:=B5 hb1
 clear hk3 hb1 tL
 have wO:=B5 (tH.out.end_ (PH.le.refl _))
 cases b1 with
 | false =>
  go_wp2_with fail
  refine bodyPost_ret (results_tmp rfl _ _ _) rfl ?_
  exact⟨rfl,wO.out⟩
 | true =>
 by_cases h20:N≤20
 case neg =>
  have h20i:(20:Int)<(N:Int):=by omega
  go_wp2_with fail
  refine bodyPost_ret (results_tmp rfl _ _ _) rfl ?_
  exact⟨rfl,wO.out⟩
 have h20i:¬((20:Int)<(N:Int)):=by omega
 have xm:=B5 (tF.out rfl)
 clear tF
 cases ts with
 | nil =>
  rw [List.length_nil]
  go_wp2_with fail
  refine bodyPost_ret (results_tmp rfl _ _ _) rfl ?_
  exact⟨rfl,wO.out⟩
 | cons ss ts =>
 obtain⟨M,hM⟩:∃M,(ss::ts).length=M:=⟨_,rfl⟩
 rw [hM]at HX ⊢
 have hM1:1≤M:=by rw [←hM,List.length_cons];omega
 have hM12:M≤12:=by rw [←hM];exact xm.out.1
 have hM0:((M:Int) == 0)=false:=by simp;omega
 by_cases hn1:n<1
 ·go_wp2_with fail
  refine bodyPost_ret (results_tmp rfl _ _ _) rfl ?_
  exact⟨rfl,wO.out⟩
 by_cases hn3:3<n
 ·go_wp2_with fail
  refine bodyPost_ret (results_tmp rfl _ _ _) rfl ?_
  exact⟨rfl,wO.out⟩
 obtain⟨q,rfl⟩:∃q:Nat,n=(q:Int):=⟨n.toNat,by omega⟩
 have hcnt:fd (ss::ts)=ss.length+fd ts:=by unfold fd;simp
 have HC:=B5 (show ss.length+fd ts≤100 by rw [←hcnt];exact xm.out.2.1)
 have zP:=B5 (show oY ts from⟨by have:=xm.out.1;rw [List.length_cons]at this;omega,by have:=HC.out;omega,fun a ha=>xm.out.2.2 a (List.mem_cons_of_mem _ ha)⟩)
 clear hcnt wO
 go_upto_region 7 with fail
 go_cut [9] (fun dv wx=>∃p,dv = .pointer p∧BehP w (aH w) [] cols ts p wx)
 case first =>
  have hct:=HX.out.cut
  unfold sliced at hct
  by_cases huc:uc=1
  ·subst huc
   rw [if_pos rfl]at hct
   have zQ:=B5 (lI HT.out hct zP.out tH.out)
   clear hct
   go_wp2_with fail
   refine zQ.out.mono ?_
   rintro e5 w5 h5
   obtain⟨p,rfl,hp⟩:=h5.ptr
   have HP:=B5 hp
   clear h5 hp zQ
   go_wp2_with fail
   go_meet
   exact⟨p,rfl,HP.out⟩
  ·rw [if_neg huc]at hct
   have zQ:=B5 (lI HT.out hct zP.out tH.out)
   clear hct
   go_wp2_with fail
   refine zQ.out.mono ?_
   rintro e5 w5 h5
   obtain⟨p,rfl,hp⟩:=h5.ptr
   have HP:=B5 hp
   clear h5 hp zQ
   go_wp2_with fail
   go_meet
   exact⟨p,rfl,HP.out⟩
 case rest =>
 obtain⟨p,rfl,D1,le1,hif⟩:=hcut
 have uf:=B5 le1
 clear le1 tH
 cases hm:ff cols with
 | false =>
  rw [hm,if_neg (by decide)]at hif
  obtain⟨rfl,hs5⟩:=hif
  have HK:=B5 (hs5.end_ uf.out)
  clear hs5 hm
  go_wp2_with fail
  refine bodyPost_ret (results_tmp rfl _ _ _) rfl ?_
  exact⟨rfl,HK.out⟩
 | true =>
  rw [hm,if_pos rfl]at hif
  obtain⟨o,rfl,hs5⟩:=hif
  have tU:=B5 hs5
  have HM:=B5 hm
  clear hs5 hm
  obtain⟨O,hO⟩:∃O,ju (eS cols) ts=O:=⟨_,rfl⟩
  have hoi:=OrI.runs ts (p9 cols) (fun a ha=>HX.out.fits a (List.mem_cons_of_mem _ ha)) (by have:=HC.out;omega)
  rw [hO]at tU hoi
  have yD:=B5 hoi
  clear hoi hO
  obtain⟨i0,hi0,hz00,hz01,hz02⟩:=info_parts qC
  have Ag:=B5 (And.intro hi0 (And.intro hz00 (And.intro hz01 hz02)))
  clear hi0 hz00 hz01 hz02
  go_wp2_with fail
  go_loopw [10,11] (fun wv iv wr=>∃(i:Nat) (wa:Option Addr) (wc:Nat) (hs:List Value) (D:PH),wv = .slice wa i wc∧iv = .int .i64 i∧i≤N∧PH.le D1 D∧hs.length=i∧(∀(k:Nat) (h:Value),hs[k]?=some h→RowsF D h (et O k))∧Sat w D wr (aC tRs 1 (.slice wa i wc) i hs::orP D o O :: [])) (fun _ iv _=>N-(intOf iv).toNat)
  case atStart=>exact⟨0,none,0,[],D1,rfl,rfl,Nat.zero_le _,PH.le.refl _,rfl,(fun k h hh=>by simp at hh),tU.out.own_nil tRs 1⟩
  case round =>
   obtain⟨i,wa,wc,hs,D,rfl,rfl,hi,hle,hhl,hhs,hsat⟩:=hrel
   have ub:=B5 hle
   have vh:=B5 hhl
   have xY:=B5 hhs
   have tY:=B5 hsat
   clear hle hhl hhs hsat tU
   by_cases hlt:i<N
   ·have hii:(i:Int)<(N:Int):=by omega
    have uH:=B5 (mI (i:Int) yD.out (tY.out.front 1 rfl))
    go_wp2_with (first|(go_at_call 21;refine uH.out.mono ?_;rintro e6 w6 ⟨ra,rc,D2,rfl,hle2,hr2,hs2⟩;have ue:=B5 hle2;have xB:=B5 hr2;have uw:=B5 ((hs2.alloc #[.slice ra (et O i).length rc] tRs).front 2 rfl);have tM:=B5 (bM (size:=1) (n:=1) (au w6 (.cells #[.slice ra (et O i).length rc] tRs)) rfl (by unfold maxLen;omega));clear hle2 hr2 hs2 uH tY)|(at_builtin;refine aF _ rfl _ _ 43 rfl tRs i0 _ 1 24 Tryz.underlying43 Ag.out.1 Ag.out.2.1 Ag.out.2.2.1 Ag.out.2.2.2 rfl _ i _ rfl uw.out _ 1 _ rfl tM.out (by intro u hu;simp at hu;subst hu;rfl) (by unfold maxLen;omega) (by omega) ?_;intro v7 w7 hs7 h17;obtain⟨qa,qc,rfl⟩:=hs7.own_shape;have uv:=B5 hs7;clear hs7 h17 uw tM))
    go_roundw
    case rel =>
     have hfin:Sat w D2 w7 (aC tRs 1 (.slice qa (i+1) qc) (i+1) (hs ++ [.slice ra (et O i).length rc])::orP D2 o O :: []):=(uv.out.front 1 rfl).drop
     refine⟨i+1,qa,qc,hs ++ [.slice ra (et O i).length rc],D2,rfl,by go_num,by omega,ub.out.trans ue.out,by rw [List.length_append,vh.out];rfl,fun k h hh=>?_,hfin⟩
     by_cases hk:k<i
     ·rw [List.getElem?_append_left (by rw [vh.out];exact hk)]at hh
      exact(xY.out k h hh).mono ue.out
     ·have hk2:k=i:=by have:=(List.getElem?_eq_some_iff.1 hh).1;rw [List.length_append,vh.out,List.length_singleton]at this;omega
      subst hk2
      rw [List.getElem?_append_right (by rw [vh.out];exact Nat.le_refl _),vh.out,Nat.sub_self]at hh
      cases hh
      exact xB.out
    case measure=>simp [intOf];omega
   ·obtain rfl:i=N:=by omega
    have hii:¬((i:Int)<(i:Int)):=by omega
    obtain⟨D2,le2,hwas,hs6⟩:=tY.out.own_give
    have wH:=B5 hwas
    have ue:=B5 le2
    have tJ:=B5 (iR le2 hs6)
    obtain⟨s0,his,hz0,hz1,hz2⟩:=info_parts mL
    have ud:=B5 (And.intro his (And.intro hz0 (And.intro hz1 hz2)))
    clear le2 hwas hs6 tY his hz0 hz1 hz2
    go_upto_region 17 with (first|(refine cD rfl _ _ rfl tSt s0 _ (gd 4 q).cells rfl Tryz.underlying49 ud.out.1 ud.out.2.1 (ud.out.2.2.1.trans rfl) (by rw [StmE.len];decide) (by rw [StmE.len];decide) ?_;have uw:=B5 ((tJ.out.alloc (gd 4 q).cells.toArray tSt).own_nil tSt 20);have tM:=B5 (bM (size:=20) (n:=1) (au wr (.cells (gd 4 q).cells.toArray tSt)) rfl (by unfold maxLen;omega));clear tJ)|(at_builtin;refine aF _ rfl _ _ tSts rfl tSt s0 _ 20 232 Tryz.underlying49 ud.out.1 ud.out.2.1 ud.out.2.2.1 ud.out.2.2.2 rfl _ 0 _ rfl uw.out _ 1 _ rfl tM.out (by simpa using StmE.one (gd 4 q)) (by unfold maxLen;omega) (by omega) ?_;intro v7 w7 hs7 h17;obtain⟨qa,qc,rfl⟩:=hs7.own_shape;have uv:=B5 (hs7.front 1 rfl).drop;clear hs7 h17 uw tM))
    have uS:=B5 (show Sat w D2 w7 (aC tSt 20 (.slice qa 1 qc) 1 ([gd 4 q].flatMap StmE.cells)::orP D2 o O :: [])from uv.out)
    clear uv
    have uJ:=B5 (uf.out.trans (ub.out.trans ue.out))
    clear uf ub
    obtain⟨es,hes,hrd⟩:=HX.out
    have hel:=hes.len
    rw [hel,hM]at hrd
    obtain _|⟨hst,hes⟩:=hes
    rename_i t0 es
    obtain⟨xs,hxs,hxrd⟩:=id hst
    have hxl:=hxs.len
    have hnl:=hst.len
    obtain⟨K,hK⟩:∃K,ss.length=K:=⟨_,rfl⟩
    rw [hK]at hnl hxl HC
    rw [hxl,hnl]at hxrd
    have hK1:K≤100:=by have:=HC.out;omega
    have HK:=B5 hK
    have uA:=B5 hxl
    have Bp:=B5 (hxs.imp (fun _ _ h=>h.mono uJ.out))
    have AU:=B5 (hxrd.mono uJ.out)
    have zO:=B5 (show ∃g og,ua=some ⟨g,og,none⟩∧∀(W:World) (L:List HP),Sat w D2 W L→W.cell? ⟨g,og+1,none⟩=some (.slice t0.sa K t0.sc)from by
     obtain⟨g,og,hg,_⟩:=bJ TxnE.len ((hrd.mono uJ.out).rd uS.out) (show(t0::es)[0]?=some t0 from rfl) (by rw [hel];exact hM)
     refine⟨g,og,hg,fun W L hs=>?_⟩
     obtain⟨g2,og2,hg2,hr⟩:=bJ TxnE.len ((hrd.mono uJ.out).rd hs) (show(t0::es)[0]?=some t0 from rfl) (by rw [hel];exact hM)
     rw [hg]at hg2
     cases hg2
     have:=hr 1 _ rfl
     rw [hnl]at this
     rw [Nat.zero_mul,Nat.add_zero]at this
     exact this)
    have Bq:=B5 (HX.out.fits ss (List.mem_cons_self ..))
    have Af:=B5 (xm.out.2.2 ss (List.mem_cons_self ..))
    obtain⟨ug,uog,rfl,htc⟩:=zO.out
    have yI:=B5 htc
    clear hes hrd hel hst hxs hxrd hxl hnl hK htc zO HX
    go_wp2_with fail
    go_loopw [12,13] (fun sv iv wr=>∃(k m:Nat) (qa:Option Addr) (qc:Nat) (ys:List StmE),sv = .slice qa m qc∧iv = .int .i64 k∧k≤K∧ys.length=m∧m≤k+1∧All2 (StmOk D2) ys (gg 4 q::(ss.take k).filter (ew q))∧Sat w D2 wr (aC tSt 20 (.slice qa m qc) m (ys.flatMap StmE.cells)::orP D2 o O :: [])) (fun _ iv _=>K-(intOf iv).toNat)
    case atStart=>exact⟨0,1,qa,qc,[gd 4 q],rfl,rfl,Nat.zero_le _,rfl,Nat.le_refl _,.cons (qo _ _ _) .nil,uS.out⟩
    case round =>
     obtain⟨k,m,qa,qc,ys,rfl,rfl,hk,hml,hmk,hall,hsat⟩:=hrel
     have xu:=B5 hml
     have uV:=B5 hall
     have tY:=B5 hsat
     clear hml hall hsat uS
     have x1:=yI.out wr _ tY.out
     by_cases hlt:k<K
     ·have hki:(k:Int)<(K:Int):=by omega
      obtain⟨x,hx⟩:∃x,xs[k]?=some x:=⟨xs[k]'(by rw [uA.out];exact hlt),List.getElem?_eq_getElem _⟩
      obtain⟨s,hs,hok⟩:=Bp.out.get hx
      have vb:=B5 (show(ss.take (k+1)).filter (ew q)=(ss.take k).filter (ew q) ++ [s].filter (ew q) by rw [List.take_add_one,hs,←List.filter_append];rfl)
      have uO:=B5 hok
      obtain⟨sg,so,hsa,hrg⟩:=bJ StmE.len (AU.out.rd tY.out) hx uA.out
      have wb:=B5 (fD hrg)
      rw [hsa]at x1
      have tP:=B5 (tY.out.alloc stZ.cells.toArray tSt)
      clear hx hs hok hrg
      go_upto_region 21 with (first|(refine bF rfl _ _ rfl _ _ rfl _ wb.out ?_)|(refine bP rfl _ _ _ rfl tSt wr.heap.size rfl x.cells rfl _ tP.out (by kernel_rfl) rfl x.one ?_;intro w5 hs5;have tU:=B5 hs5;clear hs5 tP wb tY x1))
      generalize wr.heap.size=b8 at tU ⊢
      have zR:=B5 (fD (aA (tU.out.blk 0 rfl)))
      obtain⟨x0,x2,x3,x4,x5,x6,x7,x17,x18,x19⟩:=bQ (tU.out.blk 0 rfl)
      clear x2 x3 x4 x5 x6 x7 x18 x19
      rw [uO.out.kind]at x0
      rw [uO.out.save]at x17
      cases hkp:ew q s with
      | false =>
       obtain⟨h3,h4⟩:=tk hkp
       rw [h4]at x17
       have AX:=B5 (show(ss.take (k+1)).filter (ew q)=(ss.take k).filter (ew q) by rw [vb.out,List.filter_cons,hkp];simp)
       have tJ:=B5 tU.out.drop
       clear hkp h4
       rcases h3 with h3|h3
       all_goals
        rw [h3]at x0
        clear h3
        go_wp2_with fail
        go_roundw
        case rel=>exact⟨k+1,m,qa,qc,ys,rfl,by go_num,by omega,xu.out,by omega,by rw [AX.out];exact uV.out,tJ.out⟩
        case measure=>simp [intOf];omega
      | true =>
       have AX:=B5 (show(ss.take (k+1)).filter (ew q)=(ss.take k).filter (ew q) ++ [s] by rw [vb.out,List.filter_cons,hkp];simp)
       have h3:(s.kind=4∧(s.save == (q:Int))=false)∨(s.kind=5∧(s.save == (q:Int))=false)∨((s.kind == 4)=false∧(s.kind == 5)=false):=by
        have h4:=i7.1 hkp
        by_cases k4:s.kind=4
        ·exact .inl ⟨k4,by simpa using fun h=>h4 ⟨.inl k4,h⟩⟩
        ·by_cases k5:s.kind=5
         ·exact .inr (.inl ⟨k5,by simpa using fun h=>h4 ⟨.inr k5,h⟩⟩)
         ·exact .inr (.inr ⟨by simpa using k4,by simpa using k5⟩)
       obtain⟨s0,his,hz0,hz1,hz2⟩:=info_parts mL
       have ud:=B5 (And.intro his (And.intro hz0 (And.intro hz1 hz2)))
       clear his hz0 hz1 hz2 hkp
       rcases h3 with ⟨h3,h4⟩|⟨h3,h4⟩|⟨h3,h4⟩
       all_goals
        try rw [h3]at x0
        go_upto_region 22 with fail
        clear h3 h4 x0 x17
        go_wp2_with (first|(refine bF rfl _ _ rfl _ _ rfl _ zR.out ?_)|(refine cD rfl _ _ rfl tSt s0 _ x.cells rfl Tryz.underlying49 ud.out.1 ud.out.2.1 (ud.out.2.2.1.trans rfl) (by rw [StmE.len];decide) (by rw [StmE.len];decide) ?_;have uw:=B5 ((tU.out.alloc x.cells.toArray tSt).front 2 rfl);have tM:=B5 (bM (size:=20) (n:=1) (au w5 (.cells x.cells.toArray tSt)) rfl (by unfold maxLen;omega));clear tU zR)|(at_builtin;refine aF _ rfl _ _ tSts rfl tSt s0 _ 20 232 Tryz.underlying49 ud.out.1 ud.out.2.1 ud.out.2.2.1 ud.out.2.2.2 rfl _ m _ rfl uw.out _ 1 _ rfl tM.out (by simpa using StmE.one x) (by unfold maxLen;omega) (by omega) ?_;intro v7 w7 hs7 h17;obtain⟨pa,pc,rfl⟩:=hs7.own_shape;have uv:=B5 (hs7.swap.drop.swap.drop);clear hs7 h17 uw tM))
        go_roundw
        case rel =>
         refine⟨k+1,m+1,pa,pc,ys ++ [x],rfl,by go_num,by omega,by rw [List.length_append,xu.out];rfl,by omega,?_,?_⟩
         ·rw [AX.out,←List.cons_append]
          exact uV.out.snoc uO.out
         ·rw [List.flatMap_append,List.flatMap_singleton]
          exact uv.out
        case measure=>simp [intOf];omega
     ·obtain rfl:k=K:=by omega
      have hki:¬((k:Int)<(k:Int)):=by omega
      have hall:ss.take k=ss:=List.take_of_length_le (Nat.le_of_eq HK.out)
      rw [hall]at uV
      clear hall
      obtain⟨s0,his,hz0,hz1,hz2⟩:=info_parts mL
      have ud:=B5 (And.intro his (And.intro hz0 (And.intro hz1 hz2)))
      clear his hz0 hz1 hz2
      go_upto_region 24 with (first|(refine cD rfl _ _ rfl tSt s0 _ (gd 5 q).cells rfl Tryz.underlying49 ud.out.1 ud.out.2.1 (ud.out.2.2.1.trans rfl) (by rw [StmE.len];decide) (by rw [StmE.len];decide) ?_;have uw:=B5 ((tY.out.alloc (gd 5 q).cells.toArray tSt).front 1 rfl);have tM:=B5 (bM (size:=20) (n:=1) (au wr (.cells (gd 5 q).cells.toArray tSt)) rfl (by unfold maxLen;omega));clear tY)|(at_builtin;refine aF _ rfl _ _ tSts rfl tSt s0 _ 20 232 Tryz.underlying49 ud.out.1 ud.out.2.1 ud.out.2.2.1 ud.out.2.2.2 rfl _ m _ rfl uw.out _ 1 _ rfl tM.out (by simpa using StmE.one (gd 5 q)) (by unfold maxLen;omega) (by omega) ?_;intro v7 w7 hs7 h17;obtain⟨pa,pc,rfl⟩:=hs7.own_shape;have uv:=B5 (hs7.swap.drop);clear hs7 h17 uw tM x1))
      obtain⟨D3,le3,r3,hs8⟩:=uv.out.own_give
      have hst:StmL D3 (.slice pa (m+1) pc) (fy q ss):=⟨ys ++ [gd 5 q],(uV.out.imp (fun _ _ h=>h.mono le3)).snoc (qo _ _ _),by rw [List.length_append,xu.out,List.flatMap_append,List.flatMap_singleton];exact r3⟩
      have hlen:(fy q ss).length=m+1:=hst.len.symm
      have hfit:=rB (n:=q) Bq.out
      have hnp:∀s∈fy q ss,s.pred.nodes.length≤1000000:=fun s hs=>by
       rcases lM hs with rfl|hs|rfl
       ·show pe0.p.nodes.length≤1000000
        decide
       ·have:=(Af.out s hs).2.2;omega
       ·show pe0.p.nodes.length≤1000000
        decide
      have hn150:0+fd ts+(fy q ss).length≤150:=by rw [hlen];have:=HC.out;omega
      have hfl:(ss.filter (ew q)).length≤k:=by rw [←HK.out];exact List.length_filter_le ..
      have yN:=B5 (rW yD.out (n:=q) (by omega) (by omega) (ss:=ss.filter (ew q)) (fun s hs=>Bq.out s (List.mem_filter.1 hs).1) (fun s hs=>i7.1 (List.mem_filter.1 hs).2) (by have:=HC.out;omega) (gg 4 q) (gg 5 q) ⟨rfl,rfl⟩ ⟨rfl,rfl⟩ (j7 _ _))
      have xx:=B5 (pz (lev:=0) hst hnp yD.out hn150 (iR le3 hs8))
      have hal:(O.run (fy q ss)).2.length=m+1:=(jg _ _).trans hlen
      obtain⟨P',hP'⟩:∃P',(O.run (fy q ss)).1=P':=⟨_,rfl⟩
      obtain⟨AS,hAS⟩:∃A,(O.run (fy q ss)).2=A:=⟨_,rfl⟩
      have hoi2:=yD.out.run (fy q ss) hfit hn150
      have hbr:=yN.out
      rw [show(gg 4 q::ss.filter (ew q) ++ [gg 5 q])=fy q ss from rfl,hP',hAS]at hbr
      rw [hP']at hoi2
      rw [hAS]at hal
      rw [show O.run (fy q ss)=(P',AS) by rw [←hP',←hAS]]at xx
      obtain⟨htab,AL,hAL⟩:=hbr
      have u9:=B5 htab
      have B1:=B5 hoi2
      have A3:=B5 le3
      obtain⟨M1,hM1e⟩:∃M1,m+1=M1:=⟨_,rfl⟩
      rw [hM1e]at hal xx ⊢
      have uz:=B5 (And.intro hAL hal)
      have hw1:IntKind.i64.wrap ((M1:Int)-1)=(m:Int):=by rw [IntWalk.i64_in _ (by omega)];omega
      have hmM:(m:Int)<(M1:Int):=by omega
      clear le3 r3 hs8 hst hlen hfit hnp hn150 hfl yN hal hP' hAS hoi2 htab hAL uv uV xu
      go_wp2_with fail
      refine xx.out.mono ?_
      rintro e8 w8 ⟨aa,ac,D4,rfl,hle4,hans,hs9⟩
      rw [uz.out.2]at hans ⊢
      obtain⟨as_,hall,hrd⟩:=hans
      have hasl:as_.length=M1:=by rw [hall.len];exact uz.out.2
      rw [hasl]at hrd
      obtain⟨a0,ha0⟩:∃x,as_[0]?=some x:=⟨as_[0]'(by omega),List.getElem?_eq_getElem _⟩
      obtain⟨a9,ha9⟩:∃x,as_[m]?=some x:=⟨as_[m]'(by omega),List.getElem?_eq_getElem _⟩
      have hz0:a0.e=0:=by
       obtain⟨b,hb,hok⟩:=hall.get ha0
       rw [uz.out.1]at hb
       cases hb
       exact hok.1
      have hz9:a9.e=0:=by
       obtain⟨b,hb,hok⟩:=hall.get ha9
       have hl:=uz.out.2
       rw [uz.out.1,List.length_append,List.length_cons,List.length_singleton]at hl
       rw [uz.out.1,List.getElem?_append_right (by rw [List.length_cons];omega),show m-(cd 0::AL).length=0 by rw [List.length_cons];omega]at hb
       cases hb
       exact hok.1
      obtain⟨ag,aog,hg,hr0⟩:=bJ AnsE.len (hrd.rd hs9) ha0 hasl
      obtain⟨ag2,aog2,hg2,hr9⟩:=bJ AnsE.len (hrd.rd hs9) ha9 hasl
      subst hg
      cases hg2
      have c0:=hr0 0 _ rfl
      have c9:=hr9 0 _ rfl
      rw [hz0,Nat.zero_mul,Nat.add_zero]at c0
      rw [hz9,Nat.add_zero]at c9
      have uZ:=B5 hs9
      have B2:=B5 hle4
      clear hle4 hs9 hall hrd hasl ha0 ha9 hz0 hz9 hr0 hr9 xx uz
      go_wp2_with fail
      clear c0 c9
      go_loopw [16] (fun iv wr=>∃(k:Nat) (D5:PH),iv = .int .i64 k∧k≤i∧PH.le D4 D5∧Sat w D5 wr (orP D5 o P' :: [])) (fun iv _=>i-(intOf iv).toNat)
      case atStart=>exact⟨0,D4,rfl,Nat.zero_le _,PH.le.refl _,uZ.out⟩
      case round =>
       obtain⟨k,D5,rfl,hk,hle5,hsat⟩:=hrel
       have wK:=B5 hle5
       have tY:=B5 hsat
       clear hle5 hsat uZ
       have Ah:=B5 (A3.out.trans (B2.out.trans wK.out))
       by_cases hlt:k<i
       ·have hki:(k:Int)<(i:Int):=by omega
        obtain⟨h,hh⟩:∃h,hs[k]?=some h:=⟨hs[k]'(by rw [vh.out];exact hlt),List.getElem?_eq_getElem _⟩
        have yS:=B5 (((xY.out k h hh).mono ue.out).mono Ah.out)
        have uH:=B5 (mI (k:Int) B1.out tY.out.drew)
        obtain⟨wg,wog,hwa,_⟩:=cell1 ((wH.out.mono Ah.out).rd tY.out) hh hlt
        have Br:=B5 (show ∀(D':PH) (W:World) (L:List HP),PH.le D5 D'→Sat w D' W L→W.cell? ⟨wg,wog+k,none⟩=some h from fun D' W L le hs=>by
         obtain⟨g,og,hg,hc⟩:=cell1 ((wH.out.mono (Ah.out.trans le)).rd hs) hh hlt
         rw [hwa]at hg
         cases hg
         exact hc)
        have hwc:=Br.out D5 wr _ (PH.le.refl _) tY.out
        subst hwa
        clear hh
        obtain⟨sa,sn,sc,rfl⟩:∃a n c,h = .slice a n c:=by obtain⟨ao,cap,e,_⟩:=(yS.out.1.rd tY.out).shape;exact⟨ao,_,cap,e⟩
        go_upto_region 30 with fail
        refine af [(0,false,2),(1,false,2),(3,false,7),(4,false,7),(5,false,7),(6,false,7),(2,true,0),(7,true,0),(8,false,999)] (by kernel_rfl) (by kernel_rfl) ?_
        iterate 6 (refine ae rfl rfl (fun K hK=>?_);go_simp;refine hK _ ?_;clear hK K)
        refine ah rfl ?_
        refine aq rfl (fun K hK=>?_)
        go_simp
        refine uH.out.mono ?_
        rintro e6 w6 ⟨ra,rc,D6,rfl,hle6,hr6,hs6⟩
        have xN:=B5 hle6
        have B3:=B5 hr6
        have tJ:=B5 hs6
        clear hwc
        have hwc:=Br.out D6 w6 _ hle6 hs6
        clear hle6 hr6 hs6 uH tY
        refine hK _ _ ?_
        clear hK K
        refine wpList_nil ?_
        refine And.intro ?_ ?_
        ·go_simp
        refine ah rfl ?_
        refine aq rfl (fun K hK=>?_)
        go_simp
        refine(sV (B3.out.1.rd tJ.out) ((yS.out.mono xN.out).1.rd tJ.out)).mono ?_
        rintro e7 w7 ⟨he7,hk7⟩
        have uv:=B5 (tJ.out.kept hk7)
        rw [decide_eq_true (show et P' k=et O k by unfold et;rw [u9.out])]at he7
        subst he7
        clear hk7 hwc tJ
        refine hK _ _ ?_
        clear hK K
        refine wpList_nil ?_
        refine And.intro ?_ ?_
        ·go_simp
        refine ae rfl rfl (fun K hK=>?_);go_simp;refine hK _ ?_;clear hK K
        refine ai ?_
        go_wp2_with fail
        go_roundw
        case rel=>exact⟨k+1,D6,by go_num,by omega,wK.out.trans xN.out,uv.out⟩
        case measure=>simp [intOf];omega
       ·obtain rfl:k=i:=by omega
        have hki:¬((k:Int)<(k:Int)):=by omega
        have AY:=B5 (tY.out.drop.end_ (uJ.out.trans Ah.out))
        clear tY
        go_wp2_with fail
        refine bodyPost_ret (results_tmp rfl _ _ _) rfl ?_
        exact⟨rfl,AY.out⟩
end Go.Proofs.YtdobimafhbfkhaaGreat
