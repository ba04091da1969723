/- What lies between a savepoint and going back to it, as data. -/
import Derived.Test.YtdobimafhbfkhaaGreatOY39
namespace Go.Proofs.YtdobimafhbfkhaaGreat
set_option linter.unusedSimpArgs false
theorem fP (T:List aq)(l1 l2:List BefM):bl T (l1++l2)=bl (bl T l2) l1:=by unfold bl;rw [List.reverse_append,List.foldl_append]
def mR (X Y:TxM):Prop:=bl Y.tabs Y.log=bl X.tabs X.log
theorem sA {X Y:TxM}{b:BefM}(hl:Y.log=X.log ++ [b])(ht:eU Y.tabs b=X.tabs):mR X Y:=by unfold mR;rw [hl,pu,ht]
section
variable {X : TxM} {i : Nat} {cc : List Bool} {m : aq}
theorem put_E (hm:X.tabs[i]?=some m)(hI:TabI cc m){r:List Val}(hr:aX cc r=true):mR X (X.put (i:Int) r):=by
 have e1:X.tab (i:Int)=m:=cE hm;refine sA (b:=⟨(i:Int),au r,(aP m (au r)).getD []⟩) ?_ ?_
 ·show X.log ++ [_]=_;rw [e1]
 ·show eU (X.tabs.set (i:Int).toNat (cw (X.tab i) r)) _=_
  rw [e1,F6];exact mL hm hI hr
theorem out_E (hm:X.tabs[i]?=some m)(hI:TabI cc m){k:Val}(hk:am k=true):mR X (X.out (i:Int) k):=by
 have e1:X.tab (i:Int)=m:=cE hm;refine sA (b:=⟨(i:Int),k,(aP m k).getD []⟩) ?_ ?_
 ·show X.log ++ [_]=_;rw [e1]
 ·show eU (X.tabs.set (i:Int).toNat (cR (X.tab i) k)) _=_
  rw [e1,F6];exact mX hm hI hk
end
theorem vI {i:Nat}{cc:List Bool}:∀(fr:aq) (Y:TxM) (m:aq),Y.tabs[i]?=some m→TabI cc m→(∀q∈fr,aX cc q=true∧bG q)→mR Y (fr.foldl (fun y r=>y.put (i:Int) r) Y)∧(fr.foldl (fun y r=>y.put (i:Int) r) Y).saves=Y.saves
 | [],Y,m,_,_,_=>⟨rfl,rfl⟩
 | r::fr,Y,m,hm,hI,hf=>by
  obtain⟨f1,f2⟩:=hf r (Gc ..);have hlt:=(FO.1 hm).1;have e1:Y.tab (i:Int)=m:=cE hm;have hm2:(Y.put (i:Int) r).tabs[i]?=some (cw m r):=by
   show(Y.tabs.set (i:Int).toNat (cw (Y.tab i) r))[i]?=_;rw [F6,FX hlt,e1]
  obtain⟨g1,g2⟩:=vI fr (Y.put (i:Int) r) (cw m r) hm2 (hI.put f1 f2) (fun q hq=>hf q (F4 _ hq));exact⟨g1.trans (put_E hm hI f1),g2⟩
theorem wF {i:Nat}{cc:List Bool}:∀(ks:aq) (Y:TxM) (m:aq),Y.tabs[i]?=some m→TabI cc m→(∀q∈ks,am (au q)=true)→mR Y (ks.foldl (fun y r=>y.out (i:Int) (au r)) Y)∧(ks.foldl (fun y r=>y.out (i:Int) (au r)) Y).saves=Y.saves
 | [],Y,m,_,_,_=>⟨rfl,rfl⟩
 | r::ks,Y,m,hm,hI,hf=>by
  have hlt:=(FO.1 hm).1;have e1:Y.tab (i:Int)=m:=cE hm;have hm2:(Y.out (i:Int) (au r)).tabs[i]?=some (cR m (au r)):=by
   show(Y.tabs.set (i:Int).toNat (cR (Y.tab i) (au r)))[i]?=_;rw [F6,FX hlt,e1]
  obtain⟨g1,g2⟩:=wF ks (Y.out (i:Int) (au r)) (cR m (au r)) hm2 (hI.del _) (fun q hq=>hf q (F4 _ hq));exact⟨g1.trans (out_E hm hI (hf r (Gc ..))),g2⟩
structure BackI (T0:List aq)(k:Nat)(X:TxM):Prop where
 undo:bl X.tabs X.log=T0
 one:X.saves[k]?=some 1
section
variable {T0 : List aq} {k n c : Nat} {X : TxM} {s : StmM}
theorem BackI.of (h:BackI T0 k X){Y:TxM}(he:mR X Y)(hs:Y.saves=X.saves):BackI T0 k Y:=⟨Eq.trans he h.undo,by rw [hs];exact h.one⟩
theorem BackI.all (h:BackI T0 k X)(hI:TxI n c X){i:Nat}(hi:i<X.cols.length){l:aq}{sets:List SetM}(hs:∀s∈sets,s.v.fit)(hl:∀m,X.tabs[i]?=some m→∀q∈l,q∈m):BackI T0 k (X.all (i:Int) l sets).1:=by
 obtain⟨cc,m,hc,hm,hT,h200,hmn,_⟩:=hI.tab hi;unfold TxM.all;rw [fF hc];split
 ·next h0 =>
  obtain⟨fr,hfr⟩:∃fr,cB cc sets l []=(fr,0):=⟨(cB cc sets l []).1,by rw [←h0]⟩;have hfit:=ir (m:=m) hs (fun q hq=>⟨hT.fits q (hl m hm q hq),hT.fit q (hl m hm q hq),eD.2 ⟨q,hl m hm q hq,rfl⟩⟩) (fun q hq=>by cases hq) hfr;rw [hfr];obtain⟨g1,g2⟩:=vI fr X m hm hT (fun q hq=>⟨(hfit q hq).1,(hfit q hq).2.1⟩);exact h.of g1 g2
 ·exact h
theorem BackI.one_ (h:BackI T0 k X)(hI:TxI n c X){i:Nat}(hi:i<X.cols.length){key:Val}{sets:List SetM}(hs:∀s∈sets,s.v.fit):BackI T0 k (X.one (i:Int) key sets).1:=by
 obtain⟨cc,m,hc,hm,hT,h200,hmn,_⟩:=hI.tab hi;unfold TxM.one;rw [cE hm];cases hf:aP m key with
 | none=>exact h
 | some r =>
  refine h.all hI hi hs (fun m' hm' q hq=>?_);rw [hm]at hm';cases hm';obtain rfl:=List.mem_singleton.1 hq;exact(cV hf).1
theorem BackI.drop (h:BackI T0 k X)(hI:TxI n c X){i:Nat}(hi:i<X.cols.length){key:Val}(hk:am key=true):BackI T0 k (X.drop (i:Int) key).1:=by
 obtain⟨cc,m,hc,hm,hT,h200,hmn,_⟩:=hI.tab hi;unfold TxM.drop;rw [cE hm];cases hf:aP m key with
 | none=>exact h
 | some r=>exact h.of (out_E hm hT hk) rfl
theorem BackI.back (h:BackI T0 k X)(hI:TxI n c X){j:Nat}(hj:j<4):BackI T0 k (X.back (j:Int)).1:=by
 obtain⟨v,hv⟩:∃v,X.saves[j]?=some v:=⟨X.saves[j]'(by rw [hI.two.1];exact hj),FP _⟩;have h0:=hI.saves v (FQ hv);unfold TxM.back;rw [F6,FW,hv,Option.getD_some];by_cases hz:v=0
 ·rw [if_pos hz];exact h
 ·rw [if_neg hz]
  refine⟨?_,?_⟩
  ·show bl (bl X.tabs (X.log.drop (v-1).toNat)) (X.log.take (v-1).toNat)=T0
   rw [←fP,Gj];exact h.undo
  ·show(X.saves.map (fun m=>if v<m then 0 else m))[k]?=some 1
   rw [Gg,h.one,Option.map_some,if_neg (by omega)]
theorem BackI.fetch (h:BackI T0 k X)(q:Int):BackI T0 k (X.fetch q).1:=by
 unfold TxM.fetch;split
 ·exact h
 ·split
  ·exact h.of rfl rfl
  ·exact h.of rfl rfl
theorem BackI.at_ (h:BackI T0 k X)(hI:TxI n c X){j:Nat}(hi:s.cursor=(j:Int))(hk:j<3)(hs:∀q∈s.sets,q.v.fit):BackI T0 k (X.at_ s).1:=by
 obtain⟨m,hm,hcm,hcur⟩:=hI.cur hk;unfold TxM.at_;rw [hi,hcm];split
 ·exact h
 ·next hno =>
  have hop:m.opn=true:=by cases h1:m.opn<;>simp [h1]at hno ⊢
  have hst:m.stands=true:=by cases h1:m.stands<;>simp [h1]at hno ⊢
  obtain⟨⟨i,hti,hil⟩,hkey⟩:=hcur hop;rw [hti];split
  ·exact h.drop hI hil (hkey hst)
  ·split
   ·exact h
   ·exact h.one_ hI hil hs
theorem BackI.step (h:BackI T0 k X)(hI:TxI n c X)(hs:∀q∈s.sets,q.v.fit)(hx:¬((s.kind=4∨s.kind=5)∧s.save=(k:Int))):BackI T0 k (cN X s).1:=by
 unfold cN;cases hok:okS X.cols s with
 | false=>exact h
 | true =>
  have hr:=iY hok;rw [if_neg (show ¬((!true)=true) by decide)];by_cases hk:s.kind=4
  ·rw [if_pos hk]
   obtain⟨j,hj1,hj2⟩:=gK hok (.inl hk);refine⟨h.undo,?_⟩
   show(X.saves.set s.save.toNat _)[k]?=some 1;rw [F8 (by rw [hj1,F6];intro e;exact hx ⟨.inl hk,by rw [hj1,e]⟩)];exact h.one
  rw [if_neg hk];have hn4:=hk;clear hk;by_cases hk:s.kind=5
  ·rw [if_pos hk]
   obtain⟨j,hj1,hj2⟩:=gK hok (.inr hk);rw [hj1];exact h.back hI hj2
  rw [if_neg hk];have hn5:=hk;clear hk;by_cases hk:s.kind=6
  ·rw [if_pos hk];exact h
  rw [if_neg hk];have hn6:=hk;clear hk;by_cases hk:s.kind=7
  ·rw [if_pos hk]
   obtain⟨i,cc,hti,hc,hm,he⟩:=dM hok (.inr (.inl hk));have hi:=(FO.1 hc).1;obtain⟨cc',m,hc',hmt,hT,h200,hmn,_⟩:=hI.tab hi;rw [hc]at hc';cases hc';have hfit:aX cc s.row=true:=by rw [hok]at he;rw [hk]at he;simpa [okK]using he
   split
   ·exact h
   ·rw [hti];exact h.of (put_E hmt hT hfit) rfl
  rw [if_neg hk];have hn7:=hk;clear hk;by_cases hk:s.kind=8
  ·rw [if_pos hk]
   obtain⟨i,cc,hti,hc,hm,he⟩:=dM hok (.inr (.inr (.inl hk)));rw [hti];exact h.one_ hI (FO.1 hc).1 hs
  rw [if_neg hk];have hn8:=hk;clear hk;by_cases hk:s.kind=9
  ·rw [if_pos hk]
   obtain⟨i,cc,hti,hc,hm,he⟩:=dM hok (.inr (.inr (.inr (.inl hk))));rw [hti];have hkr:am s.key=true:=by rw [hok]at he;rw [hk]at he;simp [okK]at he;exact he.1
   exact h.drop hI (FO.1 hc).1 hkr
  rw [if_neg hk];have hn9:=hk;clear hk;by_cases hk:s.kind=10
  ·rw [if_pos hk];exact h
  rw [if_neg hk];have hn10:=hk;clear hk;by_cases hk:s.kind=11
  ·rw [if_pos hk]
   obtain⟨i,cc,hti,hc,hm,he⟩:=dM hok (.inr (.inr (.inr (.inr (.inr (.inl hk))))));have hi:=(FO.1 hc).1;obtain⟨cc',m,hc',hmt,hT,h200,hmn,_⟩:=hI.tab hi;rw [hti,dp hmt];exact h.all hI hi hs (fun m' hm' q hq=>by rw [hmt]at hm';cases hm';exact dH hq)
  rw [if_neg hk];have hn11:=hk;clear hk;by_cases hk:s.kind=12
  ·rw [if_pos hk]
   obtain⟨i,cc,hti,hc,hm,he⟩:=dM hok (.inr (.inr (.inr (.inr (.inr (.inr (.inl hk)))))));have hi:=(FO.1 hc).1;obtain⟨cc',m,hc',hmt,hT,h200,hmn,_⟩:=hI.tab hi;rw [hti,dp hmt];obtain⟨g1,g2⟩:=wF (cz m s.pred bj) X m hmt hT (fun q hq=>hT.keys q (dH hq));exact h.of g1 g2
  rw [if_neg hk];have hn12:=hk;clear hk;by_cases hk:s.kind=13
  ·rw [if_pos hk];exact h.of rfl rfl
  rw [if_neg hk];have hn13:=hk;clear hk;have h14:13≤s.kind:=by omega
  obtain⟨j,hk1,hk2⟩:=jO hok h14;by_cases hk:s.kind=14
  ·rw [if_pos hk];exact h.fetch _
  rw [if_neg hk];have hn14:=hk;clear hk;by_cases hk:s.kind=17
  ·rw [if_pos hk]
   cases (X.cur s.cursor).opn
   ·exact h
   ·exact h.of rfl rfl
  ·rw [if_neg hk];exact h.at_ hI hk1 hk2 hs
end
theorem BackI.steps {T0:List aq}{k:Nat}:∀(l:List StmM) {n c:Nat} {X:TxM},BackI T0 k X→TxI n c X→(∀s∈l,bG s.row∧∀q∈s.sets,q.v.fit)→(∀s∈l,¬((s.kind=4∨s.kind=5)∧s.save=(k:Int)))→n+c+l.length≤150→BackI T0 k (cF X l).1
 | [],_,_,_,h,_,_,_,_=>h
 | s::l,n,c,X,h,hI,hf,hx,hn=>by
  rw [List.length_cons]at hn;obtain⟨f1,f2⟩:=hf s (Gc ..);obtain⟨n1,c1,e1,le1,h1⟩:=hI.step f1 f2 (by omega);exact BackI.steps l (h.step hI f2 (hx s (Gc ..))) h1 (fun q hq=>hf q (F4 _ hq)) (fun q hq=>hx q (F4 _ hq)) (by omega)
end Go.Proofs.YtdobimafhbfkhaaGreat
