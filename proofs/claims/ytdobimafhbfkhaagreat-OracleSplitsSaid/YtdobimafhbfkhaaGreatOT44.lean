/- Joined texts: What a statement of a kind does (txn.doing). What stays true of a transaction, step by step, as data. A step keeps what stays true of a transaction. A step of a transaction (txn.step). A transaction is run on an oracle (Oracle.Do). A transaction is run on an oracle: the walk (Oracle.Do). -/
import Derived.Test.YtdobimafhbfkhaaGreatOT43
set_option maxHeartbeats 64000000
namespace Go.Proofs.YtdobimafhbfkhaaGreat
open Go.ChangeShapes Go.WideShapes Go.ChangeAt Go.RowKit
set_option maxRecDepth 100000
set_option linter.unusedSimpArgs false
def doF (k:Int):Nat :=
 if k=4 then 68 else if k=5 then 69 else if k=6 then 70 else if k=7 then 71 else
 if k=8 then 72 else if k=9 then 73 else if k=10 then 74 else if k=11 then 75 else
 if k=12 then 76 else if k=13 then 77 else if k=14 then 78 else if k=17 then 79 else 80
theorem tj {w:World}{x:Nat}{k:Int}(hk:4≤k∧k≤17) :
  Calls Tryz.prog 50 #[.pointer (some ⟨x,0,none⟩),.int .i64 k] w fun e w'=>e = .returned (.func (.func (doF k)) #[.pointer (some ⟨x,0,none⟩)] #[])∧w'=w:=by
 have h:k=4∨k=5∨k=6∨k=7∨k=8∨k=9∨k=10∨k=11∨k=12∨k=13∨k=14∨k=15∨k=16∨k=17:=by omega
 clear hk
 rcases h with rfl|rfl|rfl|rfl|rfl|rfl|rfl|rfl|rfl|rfl|rfl|rfl|rfl|rfl<;>(go_enter Tryz.func50,Tryz.ntmps50;go_wp2_with fail;refine bodyPost_ret (results_tmp rfl _ _ _) rfl ?_;exact⟨rfl,rfl⟩)
end Go.Proofs.YtdobimafhbfkhaaGreat
namespace Go.Proofs.YtdobimafhbfkhaaGreat
set_option linter.unusedSimpArgs false
def TabsN (n:Nat)(T:List ay):Prop:=∀(i:Nat) (m:ay),T[i]?=some m→m.length≤n
inductive LogN (n:Nat)(cols:List (List Bool)):List ay→List BefM→Prop where
 | nil {T:List ay} (h:Well cols T) (hn:TabsN n T):LogN n cols T []
 | cons {T:List ay} {b:BefM} {l:List BefM} (h:Well cols T) (hn:TabsN n T) (hb:BefI cols b) (t:LogN n cols (gC T b) l):LogN n cols T (b::l)
section
variable {n n' : Nat} {cols : List (List Bool)} {T : List ay} {l : List BefM}
theorem LogN.log (h:LogN n cols T l):LogI cols T l:=by
 induction h with
 | nil h _=>exact .nil h
 | cons h _ hb _ ih=>exact .cons h hb ih
theorem LogN.mono (hn:n≤n')(h:LogN n cols T l):LogN n' cols T l:=by
 induction h with
 | nil h h2=>exact .nil h (fun i m hm=>Nat.le_trans (h2 i m hm) hn)
 | cons h h2 hb _ ih=>exact .cons h (fun i m hm=>Nat.le_trans (h2 i m hm) hn) hb ih
theorem LogN.well (h:LogN n cols T l):Well cols T∧TabsN n T:=by cases h with
 | nil a b=>exact⟨a,b⟩
 | cons a b _ _=>exact⟨a,b⟩
theorem LogN.at {T:List ay}{log:List BefM}(h:LogN n cols T log.reverse):∀(d j:Nat),d+j=log.length→LogN n cols (cU T (log.drop j)) (log.take j).reverse
 | 0,j,hj=>by
  rw [List.drop_of_length_le (by omega),List.take_of_length_le (by omega)]
  exact h
 | d+1,j,hj=>by
  have ih:=h.at d (j+1) (by omega)
  have hlt:j<log.length:=by omega
  have e:log.drop j=log[j]::log.drop (j+1):=List.drop_eq_getElem_cons hlt
  rw [e,fW]
  rw [List.take_add_one,List.getElem?_eq_getElem hlt,Option.toList_some,List.reverse_append]at ih
  cases ih with
  | cons _ _ _ t=>exact t
theorem Well.set {i:Nat}{c:List Bool}{m:ay}(h:Well cols T)(hc:cols[i]?=some c)(hm:TabI c m)(hl:m.length≤200):Well cols (T.set i m):=by
 refine⟨by rw [List.length_set];exact h.1,fun j c' m' hc' hm'=>?_⟩
 by_cases hj:i=j
 ·subst hj
  have hlt:i<T.length:=by have:=(List.getElem?_eq_some_iff.1 hm').1;rwa [List.length_set]at this
  rw [List.getElem?_set_self hlt]at hm'
  cases hm'
  rw [hc]at hc'
  cases hc'
  exact⟨hm,hl⟩
 ·rw [List.getElem?_set_ne hj]at hm'
  exact h.2 j c' m' hc' hm'
theorem TabsN.set {i:Nat}{m:ay}(h:TabsN n T)(hl:m.length≤n):TabsN n (T.set i m):=fun j m' hm'=>by
 by_cases hj:i=j
 ·subst hj
  have hlt:i<T.length:=by have:=(List.getElem?_eq_some_iff.1 hm').1;rwa [List.length_set]at this
  rw [List.getElem?_set_self hlt]at hm'
  cases hm'
  exact hl
 ·rw [List.getElem?_set_ne hj]at hm'
  exact h j m' hm'
end
structure TxI (n c:Nat)(X:TxM):Prop where
 log:LogN n X.cols X.tabs X.log.reverse
 len:X.log.length≤n*(c+1)
 saves:∀v∈X.saves,0≤v
 curs:∀m∈X.curs,m.opn=true→(∃i:Nat,m.table=(i:Int)∧i<X.cols.length)∧(m.stands=true→am m.key=true)
 two:X.saves.length=4∧X.curs.length=3
section
variable {n c : Nat} {X : TxM}
theorem TxI.tab (h:TxI n c X){i:Nat}(hi:i<X.cols.length):∃cc m,X.cols[i]?=some cc∧X.tabs[i]?=some m∧TabI cc m∧m.length≤200∧m.length≤n∧TabAt X i cc m:=by
 obtain⟨hw,hn⟩:=h.log.well
 have h2:i<X.tabs.length:=by rw [hw.1];exact hi
 have a:=List.getElem?_eq_getElem hi
 have b:=List.getElem?_eq_getElem h2
 obtain⟨t1,t2⟩:=hw.2 i _ _ a b
 exact⟨_,_,a,b,t1,t2,hn i _ b,b,a,t1,t2⟩
theorem LogN.put (h:LogN n X.cols X.tabs X.log.reverse){i:Nat}{cc:List Bool}{m:ay}{r:List Val}(hc:X.cols[i]?=some cc)(hm:X.tabs[i]?=some m)(hr:bw cc r=true)(hf:bR r){n':Nat}(hn:n≤n')(hl:(cF m r).length≤n')(hl2:(cF m r).length≤200) :
  LogN n' (X.put i r).cols (X.put i r).tabs (X.put i r).log.reverse:=by
 have hw:=h.well.1
 have hT:=(hw.2 i cc m hc hm).1
 have hk:am (aJ r)=true:=by obtain⟨k,_,e,hk,_⟩:=dU hr;rw [e];exact hk
 have e1:X.tab (i:Int)=m:=fG hm
 show LogN n' X.cols (X.tabs.set (i:Int).toNat (cF (X.tab i) r)) (X.log ++ [(⟨(i:Int),aJ r,(aY (X.tab i) (aJ r)).getD []⟩:BefM)]).reverse
 rw [e1,Int.toNat_natCast,List.reverse_append,List.reverse_singleton,List.singleton_append]
 refine .cons (hw.set hc (hT.put hr hf) hl2) (TabsN.set (T:=X.tabs) (fun j m' hj=>Nat.le_trans (h.well.2 j m' hj) hn) hl) ⟨i,cc,rfl,hc,hk,?_⟩ ?_
 ·cases hq:aY m (aJ r)with
  | none=>left;rfl
  | some q =>
   obtain⟨q1,q2⟩:=dQ hq
   right
   exact⟨hT.fits q q1,hT.fit q q1,q2⟩
 ·rw [td hm hT hr]
  exact h.mono hn
theorem nZ {cc:List Bool}{m:ay}(h:TabI cc m){k:Val}(hk:am k=true)(hf:aY m k=none):dx m k=m:=by
 unfold dx
 refine List.filter_eq_self.2 fun q hq=>?_
 have hne:¬ak (aJ q) k=0:=fun h0=>by
  have e:=jm (h.keys q hq) hk h0
  have h1:=eN.2 ⟨q,hq,e⟩
  rw [hf]at h1
  cases h1
 simpa using hne
theorem sY {T:List ay}{i:Nat}{cc:List Bool}{m:ay}{k:Val}(hm:T[i]?=some m)(hI:TabI cc m)(hk:am k=true):gC (T.set i (dx m k)) ⟨(i:Int),k,(aY m k).getD []⟩=T:=by
 cases hf:aY m k with
 | some q=>have:=tP hm hI (k:=k) (by rw [hf];rfl);rw [hf]at this;exact this
 | none =>
  refine mZ hm ?_
  show dx (dx m k) k=m
  rw [nZ hI hk hf,nZ hI hk hf]
theorem LogN.out (h:LogN n X.cols X.tabs X.log.reverse){i:Nat}{cc:List Bool}{m:ay}{k:Val}(hc:X.cols[i]?=some cc)(hm:X.tabs[i]?=some m)(hk:am k=true) :
  LogN n (X.out i k).cols (X.out i k).tabs (X.out i k).log.reverse:=by
 have hw:=h.well.1
 obtain⟨hT,hT2⟩:=hw.2 i cc m hc hm
 have e1:X.tab (i:Int)=m:=fG hm
 show LogN n X.cols (X.tabs.set (i:Int).toNat (dx (X.tab i) k)) (X.log ++ [(⟨(i:Int),k,(aY (X.tab i) k).getD []⟩:BefM)]).reverse
 rw [e1,Int.toNat_natCast,List.reverse_append,List.reverse_singleton,List.singleton_append]
 refine .cons (hw.set hc (hT.del k) (Nat.le_trans (List.length_filter_le ..) hT2)) (h.well.2.set (Nat.le_trans (List.length_filter_le ..) (h.well.2 i m hm))) ⟨i,cc,rfl,hc,hk,?_⟩ ?_
 ·cases hq:aY m k with
  | none=>left;rfl
  | some q =>
   obtain⟨q1,q2⟩:=dQ hq
   right
   exact⟨hT.fits q q1,hT.fit q q1,q2⟩
 ·rw [sY hm hT hk]
  exact h
structure SameT (X Y:TxM)(k:Nat):Prop where
 cols:Y.cols=X.cols
 saves:Y.saves=X.saves
 curs:Y.curs=X.curs
 len:Y.log.length=X.log.length+k
theorem o8 {i:Nat}{cc:List Bool}:∀(fr:ay) (Y:TxM) (m:ay),LogN n Y.cols Y.tabs Y.log.reverse→Y.cols[i]?=some cc→Y.tabs[i]?=some m→(∀q∈fr,bw cc q=true∧bR q∧(aY m (aJ q)).isSome=true)→LogN n (fr.foldl (fun y r=>y.put (i:Int) r) Y).cols (fr.foldl (fun y r=>y.put (i:Int) r) Y).tabs (fr.foldl (fun y r=>y.put (i:Int) r) Y).log.reverse∧SameT Y (fr.foldl (fun y r=>y.put (i:Int) r) Y) fr.length
 | [],Y,m,h,_,_,_=>⟨h,rfl,rfl,rfl,rfl⟩
 | r::fr,Y,m,h,hc,hm,hf=>by
  obtain⟨f1,f2,f3⟩:=hf r (List.mem_cons_self ..)
  have hw:=h.well.1.2 i cc m hc hm
  have hsame:=jz hw.1 f1 f3
  have h1:=h.put hc hm f1 f2 (Nat.le_refl n) (by rw [hsame];exact h.well.2 i m hm) (by rw [hsame];exact hw.2)
  have hlt:=(List.getElem?_eq_some_iff.1 hm).1
  have e1:Y.tab (i:Int)=m:=fG hm
  have hm2:(Y.put (i:Int) r).tabs[i]?=some (cF m r):=by
   show(Y.tabs.set (i:Int).toNat (cF (Y.tab i) r))[i]?=_
   rw [Int.toNat_natCast,List.getElem?_set_self hlt,e1]
  obtain⟨g1,g2⟩:=o8 fr (Y.put (i:Int) r) (cF m r) h1 hc hm2 (fun q hq=>⟨(hf q (List.mem_cons_of_mem _ hq)).1,(hf q (List.mem_cons_of_mem _ hq)).2.1,by rw [oC hw.1 f1 f3];exact(hf q (List.mem_cons_of_mem _ hq)).2.2⟩)
  refine⟨g1,g2.cols,g2.saves,g2.curs,?_⟩
  rw [List.foldl_cons,g2.len]
  show(Y.log ++ [_]).length+fr.length=_
  simp only [List.length_append,List.length_cons,List.length_nil];omega
theorem nU {i:Nat}{cc:List Bool}:∀(ks:ay) (Y:TxM) (m:ay),LogN n Y.cols Y.tabs Y.log.reverse→Y.cols[i]?=some cc→Y.tabs[i]?=some m→(∀q∈ks,am (aJ q)=true)→LogN n (ks.foldl (fun y r=>y.out (i:Int) (aJ r)) Y).cols (ks.foldl (fun y r=>y.out (i:Int) (aJ r)) Y).tabs (ks.foldl (fun y r=>y.out (i:Int) (aJ r)) Y).log.reverse∧SameT Y (ks.foldl (fun y r=>y.out (i:Int) (aJ r)) Y) ks.length
 | [],Y,m,h,_,_,_=>⟨h,rfl,rfl,rfl,rfl⟩
 | r::ks,Y,m,h,hc,hm,hf=>by
  have h1:=h.out hc hm (hf r (List.mem_cons_self ..))
  have hlt:=(List.getElem?_eq_some_iff.1 hm).1
  have e1:Y.tab (i:Int)=m:=fG hm
  have hm2:(Y.out (i:Int) (aJ r)).tabs[i]?=some (dx m (aJ r)):=by
   show(Y.tabs.set (i:Int).toNat (dx (Y.tab i) (aJ r)))[i]?=_
   rw [Int.toNat_natCast,List.getElem?_set_self hlt,e1]
  obtain⟨g1,g2⟩:=nU ks (Y.out (i:Int) (aJ r)) (dx m (aJ r)) h1 hc hm2 (fun q hq=>hf q (List.mem_cons_of_mem _ hq))
  refine⟨g1,g2.cols,g2.saves,g2.curs,?_⟩
  rw [List.foldl_cons,g2.len]
  show(Y.log ++ [_]).length+ks.length=_
  simp only [List.length_append,List.length_cons,List.length_nil];omega
theorem kW {cc:List Bool}{sets:List SetM}:∀ {l out fr:ay},cH cc sets l out=(fr,0)→fr.length=out.length+l.length
 | [],out,fr,h=>by
  have h':(out,(0:Int))=(fr,0):=h
  rw [←(Prod.mk.inj h').1];rfl
 | q::l,out,fr,h=>by
  have h':(if (cJ cc q sets).2=0 then cH cc sets l (out ++ [(cJ cc q sets).1])else ([],(cJ cc q sets).2))=(fr,0):=h
  split at h'
  ·rw [kW h',List.length_append,List.length_singleton,List.length_cons];omega
  ·next h0=>exact absurd (Prod.mk.inj h').2 h0
theorem jB {cc:List Bool}{m:ay}{sets:List SetM}(hs:∀s∈sets,s.v.fit):∀ {l out fr:ay},(∀q∈l,bw cc q=true∧bR q∧(aY m (aJ q)).isSome=true)→(∀q∈out,bw cc q=true∧bR q∧(aY m (aJ q)).isSome=true)→cH cc sets l out=(fr,0)→∀q∈fr,bw cc q=true∧bR q∧(aY m (aJ q)).isSome=true
 | [],out,fr,_,ho,h=>by
  have h':(out,(0:Int))=(fr,0):=h
  rw [←(Prod.mk.inj h').1];exact ho
 | q::l,out,fr,hl,ho,h=>by
  have h':(if (cJ cc q sets).2=0 then cH cc sets l (out ++ [(cJ cc q sets).1])else ([],(cJ cc q sets).2))=(fr,0):=h
  split at h'
  ·next h0 =>
   refine jB hs (fun p hp=>hl p (List.mem_cons_of_mem _ hp)) (fun p hp=>?_) h'
   rcases List.mem_append.1 hp with hp|hp
   ·exact ho p hp
   ·obtain rfl:=List.mem_singleton.1 hp
    obtain⟨a,b,c⟩:=hl q (List.mem_cons_self ..)
    obtain⟨u1,u2,u3⟩:=lS a b hs h0
    exact⟨u1,u2,by rw [u3];exact c⟩
  ·next h0=>exact absurd (Prod.mk.inj h').2 h0
theorem TxI.all (h:TxI n c X){i:Nat}(hi:i<X.cols.length){l:ay}{sets:List SetM}(hs:∀s∈sets,s.v.fit)(hl:∀m,X.tabs[i]?=some m→∀q∈l,q∈m)(hn:l.length≤n):TxI n (c+1) (X.all (i:Int) l sets).1:=by
 obtain⟨cc,m,hc,hm,hT,h200,hmn,_⟩:=h.tab hi
 have up:n*(c+1)≤n*(c+1+1):=Nat.mul_le_mul_left _ (by omega)
 unfold TxM.all
 rw [mQ hc]
 split
 ·next h0 =>
  obtain⟨fr,hfr⟩:∃fr,cH cc sets l []=(fr,0):=⟨(cH cc sets l []).1,by rw [←h0]⟩
  have hlen:=kW hfr
  have hfit:=jB (m:=m) hs (fun q hq=>⟨hT.fits q (hl m hm q hq),hT.fit q (hl m hm q hq),eN.2 ⟨q,hl m hm q hq,rfl⟩⟩) (fun q hq=>by cases hq) hfr
  rw [hfr]
  obtain⟨g1,g2⟩:=o8 fr X m h.log hc hm hfit
  refine⟨g1,?_,by rw [g2.saves];exact h.saves,by rw [g2.curs,g2.cols];exact h.curs,by rw [g2.saves,g2.curs];exact h.two⟩
  rw [g2.len,hlen,Nat.mul_succ n (c+1)]
  have:=h.len
  simp only [List.length_nil]
  omega
 ·exact⟨h.log,Nat.le_trans h.len up,h.saves,h.curs,h.two⟩
theorem TxI.more (h:TxI n c X):TxI n (c+1) X:=⟨h.log,Nat.le_trans h.len (Nat.mul_le_mul_left _ (by omega)),h.saves,h.curs,h.two⟩
theorem TxI.one (h:TxI n c X){i:Nat}(hi:i<X.cols.length){k:Val}{sets:List SetM}(hs:∀s∈sets,s.v.fit):TxI n (c+1) (X.one (i:Int) k sets).1:=by
 obtain⟨cc,m,hc,hm,hT,h200,hmn,_⟩:=h.tab hi
 unfold TxM.one
 rw [fG hm]
 cases hf:aY m k with
 | none=>exact h.more
 | some r =>
  refine h.all hi hs (fun m' hm' q hq=>?_) ?_
  ·rw [hm]at hm'
   cases hm'
   obtain rfl:=List.mem_singleton.1 hq
   exact(dQ hf).1
  ·have:=List.length_pos_of_mem (dQ hf).1
   rw [List.length_singleton];omega
theorem TxI.drop (h:TxI n c X){i:Nat}(hi:i<X.cols.length){k:Val}(hk:am k=true):TxI n (c+1) (X.drop (i:Int) k).1:=by
 obtain⟨cc,m,hc,hm,hT,h200,hmn,_⟩:=h.tab hi
 unfold TxM.drop
 rw [fG hm]
 cases hf:aY m k with
 | none=>exact h.more
 | some r =>
  refine⟨h.log.out hc hm hk,?_,h.saves,h.curs,h.two⟩
  show(X.log ++ [_]).length≤_
  rw [List.length_append,List.length_singleton,Nat.mul_succ n (c+1)]
  have:=List.length_pos_of_mem (dQ hf).1
  have:=h.len
  omega
end
section
variable {n c : Nat} {X : TxM} {s : StmM}
theorem fJ (h:okS X.cols s=true)(hk:s.kind=6∨s.kind=7∨s.kind=8∨s.kind=9∨s.kind=10∨s.kind=11∨s.kind=12∨s.kind=13):∃(i:Nat) (cc:List Bool),s.table=(i:Int)∧X.cols[i]?=some cc∧cu cc=true ∧
  okS X.cols s=okK s.kind (am s.key&&decide (s.key.t=cc.getD 0 false)) (cB cc s.pred) (cT cc s.sets) (bN s) (aV s) (bw cc s.row) (decide (s.pred.nodes.length≤13)):=by
 cases his:(decide (0≤s.table)&&decide (s.table<(X.cols.length:Int))&&cu (X.cols.getD s.table.toNat []))with
 | false =>
  rw [mE his]at h
  rcases hk with hk|hk|hk|hk|hk|hk|hk|hk<;>rw [hk]at h<;>exact absurd h (by simp [okK])
 | true =>
  simp only [Bool.and_eq_true,decide_eq_true_eq]at his
  obtain⟨⟨h1,h2⟩,h3⟩:=his
  have hlt:s.table.toNat<X.cols.length:=by omega
  have hc:=List.getElem?_eq_getElem hlt
  rw [List.getD_eq_getElem?_getD,hc]at h3
  refine⟨s.table.toNat,X.cols[s.table.toNat],by omega,hc,h3,mN (by omega) hc h3⟩
theorem iP (h:okS X.cols s=true):4≤s.kind∧s.kind≤17:=by
 refine Classical.byContradiction fun hn=>?_
 have h4:s.kind≠4:=by omega
 have h5:s.kind≠5:=by omega
 have h6:s.kind≠6:=by omega
 have h7:s.kind≠7:=by omega
 have h8:s.kind≠8:=by omega
 have h9:s.kind≠9:=by omega
 have h10:s.kind≠10:=by omega
 have h11:s.kind≠11:=by omega
 have h12:s.kind≠12:=by omega
 have h13:s.kind≠13:=by omega
 have h14:¬(14≤s.kind∧s.kind≤17):=by omega
 unfold okS at h
 simp only [h4,h5,h6,h7,h8,h9,h10,h11,h12,h13,h14,or_self,if_false]at h
 exact absurd h (by simp)
theorem qE (h:okS X.cols s=true)(hk:13≤s.kind):∃k:Nat,s.cursor=(k:Int)∧k<3:=by
 have hr:=iP h
 have hc:bN s=true:=by
  unfold okS at h
  by_cases h13:s.kind=13
  ·simp only [h13]at h
   simp at h
   unfold bN
   simp
   exact h.1.2
  ·have h4:s.kind≠4:=by omega
   have h5:s.kind≠5:=by omega
   have h6:s.kind≠6:=by omega
   have h7:s.kind≠7:=by omega
   have h8:s.kind≠8:=by omega
   have h9:s.kind≠9:=by omega
   have h10:s.kind≠10:=by omega
   have h11:s.kind≠11:=by omega
   have h12:s.kind≠12:=by omega
   have h14:14≤s.kind∧s.kind≤17:=by omega
   simp only [h4,h5,h6,h7,h8,h9,h10,h11,h12,h13,h14,or_self,if_false,and_self,if_true]at h
   exact h
 unfold bN at hc
 simp only [Bool.and_eq_true,decide_eq_true_eq]at hc
 exact⟨s.cursor.toNat,by omega,by omega⟩
theorem nu (h:okS X.cols s=true)(hk:s.kind=4∨s.kind=5):∃k:Nat,s.save=(k:Int)∧k<4:=by
 unfold okS at h
 simp only [hk,if_true,Bool.and_eq_true,decide_eq_true_eq]at h
 exact⟨s.save.toNat,by omega,by omega⟩
theorem TxI.setCur (h:TxI n c X)(k:Int)(m:CurM)(hm:m.opn=true→(∃i:Nat,m.table=(i:Int)∧i<X.cols.length)∧(m.stands=true→am m.key=true)):TxI n (c+1) (X.setCur k m):=by
 refine⟨h.more.log,h.more.len,h.saves,fun q hq=>?_,⟨h.two.1,by show(X.curs.set k.toNat m).length=3;rw [List.length_set];exact h.two.2⟩⟩
 rcases List.mem_or_eq_of_mem_set hq with hq|rfl
 ·exact h.curs q hq
 ·exact hm
theorem TxI.cur (h:TxI n c X){k:Nat}(hk:k<3):∃m,X.curs[k]?=some m∧X.cur (k:Int)=m∧(m.opn=true→(∃i:Nat,m.table=(i:Int)∧i<X.cols.length)∧(m.stands=true→am m.key=true)):=by
 have hlt:k<X.curs.length:=by rw [h.two.2];exact hk
 have e:=List.getElem?_eq_getElem hlt
 exact⟨_,e,mP e,h.curs _ (List.getElem_mem hlt)⟩
theorem TxI.back (h:TxI n c X){k:Nat}(hk:k<4):TxI n (c+1) (X.back (k:Int)).1:=by
 obtain⟨v,hv⟩:∃v,X.saves[k]?=some v:=⟨X.saves[k]'(by rw [h.two.1];exact hk),List.getElem?_eq_getElem _⟩
 have h0:=h.saves v (List.mem_of_getElem? hv)
 rcases Int.lt_or_eq_of_le h0 with hp|rfl
 ·obtain⟨A,rfl⟩:∃A:Nat,v=(A:Int)+1:=⟨(v-1).toNat,by omega⟩
  rw [mh hv]
  have hm:=h.more
  have hj:∃j,j≤X.log.length∧X.yb A=X.yb j:=by
   by_cases hA:A≤X.log.length
   ·exact⟨A,hA,rfl⟩
   ·exact⟨X.log.length,Nat.le_refl _,rW X (Nat.le_refl _) (.inr rfl) (by omega)⟩
  obtain⟨j,hj1,hj2⟩:=hj
  rw [hj2]
  refine⟨(h.log.at (X.log.length-j) j (by omega)),?_,?_,h.curs,⟨?_,h.two.2⟩⟩
  ·show(X.log.take j).length≤_
   have:=hm.len
   rw [List.length_take];omega
  ·intro q hq
   obtain⟨p,hp,rfl⟩:=List.mem_map.1 hq
   have:=h.saves p hp
   split<;>omega
  ·show(X.saves.map _).length=4
   rw [List.length_map];exact h.two.1
 ·rw [lT hv];exact h.more
theorem TxI.fetch (h:TxI n c X){k:Nat}(hk:k<3):TxI n (c+1) (X.fetch (k:Int)).1:=by
 obtain⟨m,hm,hcm,hcur⟩:=h.cur hk
 cases hop:m.opn with
 | false =>
  have e:X.fetch (k:Int)=(X,cD 161):=by unfold TxM.fetch;rw [hcm,hop];rfl
  rw [e];exact h.more
 | true =>
  obtain⟨⟨i,hti,hi⟩,hst⟩:=hcur hop
  obtain⟨cc,mt,hc,hmt,hT,h200,hmn,_⟩:=h.tab hi
  cases hr:cS mt m.p m.frm with
  | nil =>
   rw [md hcm hop hti hmt hr]
   exact h.setCur _ _ (fun _=>⟨⟨i,hti,hi⟩,fun h2=>by cases h2⟩)
  | cons r rs =>
   rw [ld hcm hop hti hmt hr]
   refine h.setCur _ _ (fun _=>⟨⟨i,hti,hi⟩,fun _=>?_⟩)
   exact hT.keys r (fq (by rw [hr];exact List.mem_cons_self ..))
theorem TxI.at_ (h:TxI n c X){k:Nat}(hi:s.cursor=(k:Int))(hk:k<3)(hs:∀q∈s.sets,q.v.fit):TxI n (c+1) (X.at_ s).1:=by
 obtain⟨m,hm,hcm,hcur⟩:=h.cur hk
 unfold TxM.at_
 rw [hi,hcm]
 split
 ·exact h.more
 ·next hno =>
  have hop:m.opn=true:=by cases h1:m.opn<;>simp [h1]at hno ⊢
  have hst:m.stands=true:=by cases h1:m.stands<;>simp [h1]at hno ⊢
  obtain⟨⟨i,hti,hil⟩,hkey⟩:=hcur hop
  rw [hti]
  split
  ·exact h.drop hil (hkey hst)
  ·split
   ·exact h.more
   ·exact h.one hil hs
theorem TxI.step (h:TxI n c X)(hf:bR s.row)(hs:∀q∈s.sets,q.v.fit)(hn:n+1≤200):∃n' c',n'+c'=n+c+1∧n≤n'∧TxI n' c' (cC X s).1:=by
 have keep:∀Y,TxI n (c+1) Y→∃n' c',n'+c'=n+c+1∧n≤n'∧TxI n' c' Y:=fun Y hY=>⟨n,c+1,by omega,Nat.le_refl _,hY⟩
 unfold cC
 cases hok:okS X.cols s with
 | false=>exact keep _ h.more
 | true =>
  have hr:=iP hok
  rw [if_neg (show ¬((!true)=true) by decide)]
  by_cases hk:s.kind=4
  ·rw [if_pos hk]
   refine keep _ ⟨h.more.log,h.more.len,fun q hq=>?_,h.curs,⟨by show(X.saves.set _ _).length=4;rw [List.length_set];exact h.two.1,h.two.2⟩⟩
   rcases List.mem_or_eq_of_mem_set hq with hq|rfl
   ·exact h.saves q hq
   ·omega
  rw [if_neg hk]
  have hn4:=hk
  clear hk
  by_cases hk:s.kind=5
  ·rw [if_pos hk]
   obtain⟨k,hk1,hk2⟩:=nu hok (.inr hk)
   rw [hk1]
   exact keep _ (h.back hk2)
  rw [if_neg hk]
  have hn5:=hk
  clear hk
  by_cases hk:s.kind=6
  ·rw [if_pos hk];exact keep _ h.more
  rw [if_neg hk]
  have hn6:=hk
  clear hk
  by_cases hk:s.kind=7
  ·rw [if_pos hk]
   obtain⟨i,cc,hti,hc,hm,he⟩:=fJ hok (.inr (.inl hk))
   have hi:=(List.getElem?_eq_some_iff.1 hc).1
   obtain⟨cc',m,hc',hmt,hT,h200,hmn,_⟩:=h.tab hi
   rw [hc]at hc'
   cases hc'
   have hfit:bw cc s.row=true:=by rw [hok]at he;rw [hk]at he;simpa [okK]using he
   split
   ·exact keep _ h.more
   ·next hno =>
    rw [hti]at hno ⊢
    rw [fG hmt]at hno
    have hlen:(cF m s.row).length=m.length+1:=by
     rw [kI hT hfit]
     rw [if_neg hno]
    refine⟨n+1,c,by omega,by omega,h.log.put hc hmt hfit hf (by omega) (by omega) (by omega),?_,h.saves,h.curs,h.two⟩
    show(X.log ++ [_]).length≤_
    rw [List.length_append,List.length_singleton,Nat.succ_mul]
    have:=h.len
    omega
  rw [if_neg hk]
  have hn7:=hk
  clear hk
  by_cases hk:s.kind=8
  ·rw [if_pos hk]
   obtain⟨i,cc,hti,hc,hm,he⟩:=fJ hok (.inr (.inr (.inl hk)))
   rw [hti]
   exact keep _ (h.one (List.getElem?_eq_some_iff.1 hc).1 hs)
  rw [if_neg hk]
  have hn8:=hk
  clear hk
  by_cases hk:s.kind=9
  ·rw [if_pos hk]
   obtain⟨i,cc,hti,hc,hm,he⟩:=fJ hok (.inr (.inr (.inr (.inl hk))))
   rw [hti]
   have hkr:am s.key=true:=by rw [hok]at he;rw [hk]at he;simp [okK]at he;exact he.1
   exact keep _ (h.drop (List.getElem?_eq_some_iff.1 hc).1 hkr)
  rw [if_neg hk]
  have hn9:=hk
  clear hk
  by_cases hk:s.kind=10
  ·rw [if_pos hk];exact keep _ h.more
  rw [if_neg hk]
  have hn10:=hk
  clear hk
  by_cases hk:s.kind=11
  ·rw [if_pos hk]
   obtain⟨i,cc,hti,hc,hm,he⟩:=fJ hok (.inr (.inr (.inr (.inr (.inr (.inl hk))))))
   have hi:=(List.getElem?_eq_some_iff.1 hc).1
   obtain⟨cc',m,hc',hmt,hT,h200,hmn,_⟩:=h.tab hi
   rw [hti,dP hmt]
   exact keep _ (h.all hi hs (fun m' hm' q hq=>by rw [hmt]at hm';cases hm';exact fq hq) (iH hmn))
  rw [if_neg hk]
  have hn11:=hk
  clear hk
  by_cases hk:s.kind=12
  ·rw [if_pos hk]
   obtain⟨i,cc,hti,hc,hm,he⟩:=fJ hok (.inr (.inr (.inr (.inr (.inr (.inr (.inl hk)))))))
   have hi:=(List.getElem?_eq_some_iff.1 hc).1
   obtain⟨cc',m,hc',hmt,hT,h200,hmn,_⟩:=h.tab hi
   rw [hti,dP hmt]
   obtain⟨g1,g2⟩:=nU (cS m s.pred cq) X m h.log hc' hmt (fun q hq=>hT.keys q (fq hq))
   refine keep _ ⟨g1,?_,by rw [g2.saves];exact h.saves,by rw [g2.curs,g2.cols];exact h.curs,by rw [g2.saves,g2.curs];exact h.two⟩
   have h1:=iH (p:=s.pred) (s:=cq) hmn
   rw [g2.len,Nat.mul_succ n (c+1)]
   have:=h.len
   omega
  rw [if_neg hk]
  have hn12:=hk
  clear hk
  by_cases hk:s.kind=13
  ·rw [if_pos hk]
   obtain⟨i,cc,hti,hc,hm,he⟩:=fJ hok (.inr (.inr (.inr (.inr (.inr (.inr (.inr hk)))))))
   exact keep _ (h.setCur _ _ (fun _=>⟨⟨i,hti,(List.getElem?_eq_some_iff.1 hc).1⟩,fun h2=>by cases h2⟩))
  rw [if_neg hk]
  have hn13:=hk
  clear hk
  have h14:13≤s.kind:=by omega
  obtain⟨k,hk1,hk2⟩:=qE hok h14
  by_cases hk:s.kind=14
  ·rw [if_pos hk,hk1];exact keep _ (h.fetch hk2)
  rw [if_neg hk]
  have hn14:=hk
  clear hk
  by_cases hk:s.kind=17
  ·rw [if_pos hk]
   cases (X.cur s.cursor).opn
   ·exact keep _ h.more
   ·exact keep _ (h.setCur _ _ (fun h2=>by cases h2))
  ·rw [if_neg hk];exact keep _ (h.at_ hk1 hk2 hs)
end
end Go.Proofs.YtdobimafhbfkhaaGreat
namespace Go.Proofs.YtdobimafhbfkhaaGreat
open Go.ChangeShapes Go.WideShapes Go.ChangeAt Go.RowKit
set_option maxRecDepth 100000
set_option linter.unusedSimpArgs false
theorem TxI.sizes {n c:Nat}{X:TxM}(h:TxI n c X)(hn:n+c≤150):X.log.length+200≤10000:=by
 have h1:=h.len
 have h2:n*(c+1)≤n*(151-n):=Nat.mul_le_mul_left _ (by omega)
 have h3:∀k:Fin 151,k.val*(151-k.val)≤5776:=by decide +kernel
 have h4:=h3 ⟨n,by omega⟩
 simp only at h4
 omega
theorem TabI.short {cc:List Bool}{m:ay}(h:TabI cc m):∀r∈m,0<r.length∧r.length≤1000000:=fun r hr=>by
 have h1:=cM (h.fits r hr)
 have h2:=h1.2
 unfold cu at h2
 simp at h2
 omega
theorem do_ok {B w:World}{D:PH}{x o n c:Nat}{X:TxM}{l:List HP}{e:StmE}{s:StmM}(hs:StmOk D e s)(hI:TxI n c X)(hn:n+c≤150)(hok:okS X.cols s=true)(h:TxIn B w D x o X l) :
  Calls Tryz.prog (doF s.kind) #[.pointer (some ⟨x,0,none⟩),.agg e.cells.toArray] w (d4 B D x o l (cC X s)):=by
 have hr:=iP hok
 have hsz:=hI.sizes hn
 have hst:cC X s=if s.kind=4 then X.save s else if s.kind=5 then X.back s.save else if s.kind=6 then X.get s else if s.kind=7 then X.insert s else if s.kind=8 then X.one s.table s.key s.sets else if s.kind=9 then X.drop s.table s.key else
   if s.kind=10 then X.pick s else if s.kind=11 then X.change s else if s.kind=12 then X.clear s else if s.kind=13 then X.opens s else if s.kind=14 then X.fetch s.cursor else if s.kind=17 then X.close s else X.at_ s:=by
  unfold cC
  rw [hok]
  rfl
 rw [hst]
 unfold doF
 by_cases h4:s.kind=4
 ·rw [if_pos h4,if_pos h4]
  obtain⟨k,hk1,hk2⟩:=nu hok (.inl h4)
  exact rp hs hk1 hk2 h
 rw [if_neg h4,if_neg h4]
 by_cases h5:s.kind=5
 ·rw [if_pos h5,if_pos h5]
  obtain⟨k,hk1,hk2⟩:=nu hok (.inr h5)
  exact rU hs hk1 hk2 hI.log.log hI.saves h
 rw [if_neg h5,if_neg h5]
 have tab:(s.kind=6∨s.kind=7∨s.kind=8∨s.kind=9∨s.kind=10∨s.kind=11∨s.kind=12∨s.kind=13)→∃(i:Nat) (cc:List Bool) (m:ay),s.table=(i:Int)∧X.cols[i]?=some cc∧X.tabs[i]?=some m∧TabI cc m∧m.length≤200∧m.length≤n∧okK s.kind (am s.key&&decide (s.key.t=cc.getD 0 false)) (cB cc s.pred) (cT cc s.sets) (bN s) (aV s) (bw cc s.row) (decide (s.pred.nodes.length≤13))=true:=fun hk=>by
  obtain⟨i,cc,hti,hc,hm,he⟩:=fJ hok hk
  obtain⟨cc',m,hc',hmt,hT,h200,hmn,_⟩:=hI.tab (List.getElem?_eq_some_iff.1 hc).1
  rw [hc]at hc'
  cases hc'
  exact⟨i,cc,m,hti,hc,hmt,hT,h200,hmn,by rw [←he];exact hok⟩
 by_cases h6:s.kind=6
 ·rw [if_pos h6,if_pos h6]
  obtain⟨i,cc,m,hti,hc,hmt,hT,_⟩:=tab (.inl h6)
  exact sm hs hti hmt (fun r hr=>(hT.short r hr).2) h
 rw [if_neg h6,if_neg h6]
 by_cases h7:s.kind=7
 ·rw [if_pos h7,if_pos h7]
  obtain⟨i,cc,m,hti,hc,hmt,hT,h200,hmn,he⟩:=tab (.inr (.inl h7))
  rw [h7]at he
  have hfit:bw cc s.row=true:=by simpa [okK]using he
  obtain⟨k0,h0,hk0,hk1,_⟩:=dU hfit
  have h1:=cM hfit
  have h2:=h1.2
  unfold cu at h2
  simp at h2
  exact nR hs hti hmt h0 hk1 (fun hno=>by rw [kI hT hfit];split<;>omega) (by omega) (by omega) h
 rw [if_neg h7,if_neg h7]
 by_cases h8:s.kind=8
 ·rw [if_pos h8,if_pos h8]
  obtain⟨i,cc,m,hti,hc,hmt,hT,h200,hmn,he⟩:=tab (.inr (.inr (.inl h8)))
  exact oz hs hti hmt hc hT h200 (by omega) h
 rw [if_neg h8,if_neg h8]
 by_cases h9:s.kind=9
 ·rw [if_pos h9,if_pos h9]
  obtain⟨i,cc,m,hti,hc,hmt,hT,h200,hmn,he⟩:=tab (.inr (.inr (.inr (.inl h9))))
  rw [h9]at he
  have hkr:am s.key=true:=by simp [okK]at he;exact he.1
  exact oD hs hti hmt hkr (by omega) h
 rw [if_neg h9,if_neg h9]
 by_cases h10:s.kind=10
 ·rw [if_pos h10,if_pos h10]
  obtain⟨i,cc,m,hti,hc,hmt,hT,h200,hmn,he⟩:=tab (.inr (.inr (.inr (.inr (.inl h10)))))
  exact rL hs hti hmt (fun r hr=>(hT.short r hr).2) h
 rw [if_neg h10,if_neg h10]
 by_cases h11:s.kind=11
 ·rw [if_pos h11,if_pos h11]
  obtain⟨i,cc,m,hti,hc,hmt,hT,h200,hmn,he⟩:=tab (.inr (.inr (.inr (.inr (.inr (.inl h11))))))
  exact nO hs hti hmt hc hT h200 (fun r hr=>(hT.short r hr).2) hsz h
 rw [if_neg h11,if_neg h11]
 by_cases h12:s.kind=12
 ·rw [if_pos h12,if_pos h12]
  obtain⟨i,cc,m,hti,hc,hmt,hT,h200,hmn,he⟩:=tab (.inr (.inr (.inr (.inr (.inr (.inr (.inl h12)))))))
  exact pK hs hti hmt hT h200 (fun r hr=>(hT.short r hr).2) hsz h
 rw [if_neg h12,if_neg h12]
 obtain⟨k,hk1,hk2⟩:=qE hok (show 13≤s.kind by omega)
 obtain⟨m,hm,hcm,hcur⟩:=hI.cur hk2
 by_cases h13:s.kind=13
 ·rw [if_pos h13,if_pos h13]
  exact rz hs hk1 hk2 h
 rw [if_neg h13,if_neg h13]
 by_cases h14:s.kind=14
 ·rw [if_pos h14,if_pos h14]
  refine pj hs hk1 hk2 hm (fun hop=>?_) h
  obtain⟨⟨i,hti,hi⟩,_⟩:=hcur hop
  obtain⟨cc,mt,hc,hmt,hT,_⟩:=hI.tab hi
  exact⟨i,mt,hti,hmt,hT.short⟩
 rw [if_neg h14,if_neg h14]
 by_cases h17:s.kind=17
 ·rw [if_pos h17,if_pos h17]
  exact pM hs hk1 hk2 hm h
 rw [if_neg h17,if_neg h17]
 refine txAt_ok hs hk1 hk2 hm (fun hop hst=>?_) (by omega) h
 obtain⟨⟨i,hti,hi⟩,hkey⟩:=hcur hop
 obtain⟨cc,mt,hc,hmt,hT,h200,hmn,hta⟩:=hI.tab hi
 exact⟨i,cc,mt,hti,hta,hkey hst⟩
theorem tx_tbls {B w:World}{D:PH}{x o:Nat}{X:TxM}{l:List HP}(h:TxIn B w D x o X l):∃ta tc,w.cell? ⟨x,0,none⟩=some (.pointer (some ⟨o,0,none⟩))∧w.cell? ⟨o,0,none⟩=some (.slice ta X.cols.length tc)∧TblsAt D (.slice ta X.cols.length tc) X.cols:=by
 obtain⟨H,hH,hs⟩:=h
 obtain⟨c0,_,_⟩:=cW hs
 obtain⟨y,hy,hs2⟩:=fS (ik hs)
 obtain⟨d0,_⟩:=dy hs2
 have ht:=hy.1
 obtain⟨us,h1,h2,h3,h4⟩:=id ht
 obtain⟨ta,tc,hv⟩:=h3.shape
 have hv2:y.tv = .slice ta X.cols.length tc:=hv
 rw [hv2]at d0 ht
 exact⟨ta,tc,c0,d0,ht⟩
theorem px {k:Int}(hk:4≤k∧k≤17):∀args w,(callFunc (doF k) args).run Tryz.prog w = .ok (.enter (doF k) args) w:=by
 have h:k=4∨k=5∨k=6∨k=7∨k=8∨k=9∨k=10∨k=11∨k=12∨k=13∨k=14∨k=15∨k=16∨k=17:=by omega
 rcases h with rfl|rfl|rfl|rfl|rfl|rfl|rfl|rfl|rfl|rfl|rfl|rfl|rfl|rfl
 ·exact enters_of Tryz.func68 (by kernel_rfl) rfl
 ·exact enters_of Tryz.func69 (by kernel_rfl) rfl
 ·exact enters_of Tryz.func70 (by kernel_rfl) rfl
 ·exact enters_of Tryz.func71 (by kernel_rfl) rfl
 ·exact enters_of Tryz.func72 (by kernel_rfl) rfl
 ·exact enters_of Tryz.func73 (by kernel_rfl) rfl
 ·exact enters_of Tryz.func74 (by kernel_rfl) rfl
 ·exact enters_of Tryz.func75 (by kernel_rfl) rfl
 ·exact enters_of Tryz.func76 (by kernel_rfl) rfl
 ·exact enters_of Tryz.func77 (by kernel_rfl) rfl
 ·exact enters_of Tryz.func78 (by kernel_rfl) rfl
 ·exact enters_of Tryz.func80 (by kernel_rfl) rfl
 ·exact enters_of Tryz.func80 (by kernel_rfl) rfl
 ·exact enters_of Tryz.func79 (by kernel_rfl) rfl
theorem rO {B w:World}{D:PH}{x o n c:Nat}{X:TxM}{l:List HP}{e:StmE}{s:StmM}(hs:StmOk D e s)(hnp:s.pred.nodes.length≤1000000)(hI:TxI n c X)(hn:n+c≤150)(h:TxIn B w D x o X l) :
  Calls Tryz.prog 39 #[.pointer (some ⟨x,0,none⟩),.agg e.cells.toArray] w (d4 B D x o l (cC X s)):=by
 obtain⟨W0,hW0,h2⟩:=dN h e.cells.toArray aZ tSt bl
 have uI:=CM hW0
 obtain⟨ta,tc,c0,d0,ht⟩:=tx_tbls h2
 have hk0:Kept (fun _=>False) W0 W0.drew:=(Kept.refl (fun _=>False) W0).drew
 have hpool:PH.le D (aD W0.drew):=(h2.kept hk0).sat.pool
 have vj:=CM (nK (ht.mono hpool) (hs.mono hpool) hnp)
 have yQ:=CM (eC (aA ((h2.kept hk0).sat.blk 1 rfl)))
 have uv:=CM h2
 have uz:=CM hs
 have HI:=CM hI
 have HN:=CM hn
 clear h hs hnp hI hn hW0 h2 ht hk0 hpool
 go_enter Tryz.func39,Tryz.ntmps39
 go_upto_region 1 with fail
 rw [←uI.out]
 clear uI
 generalize w.heap.size+1=ba at uv yQ ⊢
 generalize w.heap.size=bs at uv yQ ⊢
 refine af [(0,false,8),(1,false,8),(2,false,8),(3,false,8),(4,false,8),(5,false,8),(6,false,8),(7,false,8),(8,true,0),(9,false,999)] (by kernel_rfl) (by kernel_rfl) ?_
 iterate 8 (refine ae rfl rfl (fun K hK=>?_);(first|((refine cj _ _ rfl _ _ rfl _ yQ.out ?_);go_simp)|go_simp);refine hK _ ?_;clear hK K)
 refine ag rfl ?_
 refine au rfl (fun K hK=>?_)
 go_simp
 refine vj.out.mono ?_
 rintro e1 w1 ⟨rfl,hk1⟩
 have uk:=CM ((uv.out.kept (Kept.refl (fun _=>False) W0).drew).kept hk1)
 clear hk1 vj yQ uv c0 d0
 refine hK _ _ ?_
 clear hK K
 refine wpList_nil ?_
 refine And.intro ?_ ?_
 ·go_simp
 refine ae rfl rfl (fun K hK=>?_);(first|((refine cj _ _ rfl _ _ rfl _ yQ.out ?_);go_simp)|go_simp);refine hK _ ?_;clear hK K
 refine ah ?_
 cases hok:okS X.cols s with
 | false =>
  have HE:=CM (show cC X s=(X,cD 167) by unfold cC;rw [hok];rfl)
  clear hok
  go_wp2_with (refine az rfl _ _ _ rfl bl ba rfl [.int .i64 167,.slice none 0 0,.int .i64 0] rfl aZ uk.out (by kernel_rfl) rfl (by intro u hu;simp at hu;rcases hu with rfl|rfl|rfl<;>rfl) ?_;intro w6 hs6;have uu:=CM hs6;clear hs6 uk)
  refine bodyPost_ret (aR rfl _ _ rfl (bF rfl (aA (uu.out.sat.blk 0 rfl)))) rfl ?_
  rw [HE.out]
  exact⟨none,0,0,D,rfl,PH.le.refl _,RowsF.nil _,uu.out.drop.drop⟩
 | true =>
  have xI:=CM (do_ok uz.out HI.out HN.out hok uk.out)
  have hr:=iP hok
  obtain⟨x0,x2,x3,x4,x5,x6,x7,x17,x18,x19⟩:=bj (uk.out.sat.blk 1 rfl)
  rw [uz.out.kind]at x0
  have B3:=CM (tj (w:=w1) (x:=x) hr)
  have hent:=px hr
  clear hok hr
  go_upto_region 5 with (go_at_call 50;refine B3.out.mono ?_;rintro e2 w2 ⟨rfl,rfl⟩)
  have yQ:=CM (eC (aA (uk.out.sat.blk 1 rfl)))
  clear x0 x2 x3 x4 x5 x6 x7 x17 x18 x19 B3
  generalize doF s.kind=dk at *
  go_wp2_with (first|(refine bG rfl _ _ rfl _ _ rfl _ yQ.out ?_)|(refine xI.out.mono ?_;rintro e2 w3 ⟨ra,rn,rc,D2,rfl,hle,hrw,hs3⟩;have uF:=CM hle;have vm:=CM hrw;have ut:=CM hs3;clear hle hrw hs3 xI uk yQ)|(refine az rfl _ _ _ rfl bl ba rfl [_,.slice ra rn rc,_] rfl aZ ut.out (by kernel_rfl) rfl (by intro u hu;simp at hu;rcases hu with rfl|rfl|rfl<;>rfl) ?_;intro w6 hs6;have uu:=CM hs6;clear hs6 ut))
  refine bodyPost_ret (aR rfl _ _ rfl (bF rfl (aA (uu.out.sat.blk 0 rfl)))) rfl ?_
  exact⟨ra,rn,rc,D2,rfl,uF.out,vm.out,uu.out.drop.drop⟩
abbrev pT : TypeId:=51
structure AnsE where
 e:Int
 ra:Option Addr
 rn:Nat
 rc:Nat
 n:Int
def AnsE.cells (a:AnsE):List Value:=[.int .i64 a.e,.slice a.ra a.rn a.rc,.int .i64 a.n]
theorem AnsE.len (a:AnsE):a.cells.length=3:=rfl
theorem AnsE.one (a:AnsE):∀u∈a.cells,u.oneCell'=true:=by intro u hu;simp [AnsE.cells]at hu;rcases hu with rfl|rfl|rfl<;>rfl
def AnsOk (D:PH)(a:AnsE)(m:AnsM):Prop:=a.e=m.e∧RowsF D (.slice a.ra a.rn a.rc) m.rows∧a.n=m.n
theorem AnsOk.mono {D D':PH}(le:PH.le D D'){a:AnsE}{m:AnsM}(h:AnsOk D a m):AnsOk D' a m:=⟨h.1,h.2.1.mono le,h.2.2⟩
def AnsL (D:PH)(v:Value)(ams:List AnsM):Prop:=∃es:List AnsE,All2 (AnsOk D) es ams∧RdP D 3 v es.length (es.flatMap AnsE.cells)
def StmL (D:PH)(v:Value)(ss:List StmM):Prop:=∃es:List StmE,All2 (StmOk D) es ss∧RdP D 20 v es.length (es.flatMap StmE.cells)
theorem kJ (X:TxM)(s:StmM):∀l:List StmM,bg X (l ++ [s])=((cC (bg X l).1 s).1,(bg X l).2 ++ [(cC (bg X l).1 s).2])
 | []=>rfl
 | a::l=>by
  show((bg (cC X a).1 (l ++ [s])).1,(cC X a).2::(bg (cC X a).1 (l ++ [s])).2)=_
  rw [kJ (cC X a).1 s l]
  rfl
theorem gR (X:TxM):∀l:List StmM,(bg X l).2.length=l.length
 | []=>rfl
 | a::l=>by
  show((cC X a).2::(bg (cC X a).1 l).2).length=_
  rw [List.length_cons,gR,List.length_cons]
theorem jv (X:TxM)(s:StmM):(cC X s).1.cols=X.cols:=by
 have put:∀(fr:ay) (i:Int) (Y:TxM),(fr.foldl (fun y r=>y.put i r) Y).cols=Y.cols:=fun fr i=>by
  induction fr with
  | nil=>intro Y;rfl
  | cons r fr ih=>intro Y;rw [List.foldl_cons,ih];rfl
 have outs:∀(fr:ay) (i:Int) (Y:TxM),(fr.foldl (fun y r=>y.out i (aJ r)) Y).cols=Y.cols:=fun fr i=>by
  induction fr with
  | nil=>intro Y;rfl
  | cons r fr ih=>intro Y;rw [List.foldl_cons,ih];rfl
 have hall:∀t l sets,(X.all t l sets).1.cols=X.cols:=fun t l sets=>by
  unfold TxM.all
  by_cases h0:(cH (X.col t) sets l []).2=0
  ·rw [if_pos h0];exact put _ _ _
  ·rw [if_neg h0]
 have hone:∀t k sets,(X.one t k sets).1.cols=X.cols:=fun t k sets=>by
  unfold TxM.one
  cases aY (X.tab t) k with
  | none=>rfl
  | some r=>exact hall _ _ _
 have hdrop:∀t k,(X.drop t k).1.cols=X.cols:=fun t k=>by
  unfold TxM.drop
  cases aY (X.tab t) k with
  | none=>rfl
  | some r=>rfl
 unfold cC
 cases okS X.cols s
 ·rfl
 rw [if_neg (show ¬((!true)=true) by decide)]
 by_cases h4:s.kind=4
 ·rw [if_pos h4]
 rw [if_neg h4]
 by_cases h5:s.kind=5
 ·rw [if_pos h5]
  unfold TxM.back
  by_cases h0:X.saves.getD s.save.toNat 0=0
  ·rw [if_pos h0]
  ·rw [if_neg h0]
 rw [if_neg h5]
 by_cases h6:s.kind=6
 ·rw [if_pos h6]
 rw [if_neg h6]
 by_cases h7:s.kind=7
 ·rw [if_pos h7]
  cases (aY (X.tab s.table) (aJ s.row)).isSome<;>rfl
 rw [if_neg h7]
 by_cases h8:s.kind=8
 ·rw [if_pos h8];exact hone _ _ _
 rw [if_neg h8]
 by_cases h9:s.kind=9
 ·rw [if_pos h9];exact hdrop _ _
 rw [if_neg h9]
 by_cases h10:s.kind=10
 ·rw [if_pos h10]
 rw [if_neg h10]
 by_cases h11:s.kind=11
 ·rw [if_pos h11];exact hall _ _ _
 rw [if_neg h11]
 by_cases h12:s.kind=12
 ·rw [if_pos h12];exact outs _ _ _
 rw [if_neg h12]
 by_cases h13:s.kind=13
 ·rw [if_pos h13];rfl
 rw [if_neg h13]
 by_cases h14:s.kind=14
 ·rw [if_pos h14]
  unfold TxM.fetch
  cases (X.cur s.cursor).opn
  ·rfl
  ·rw [if_neg (show ¬((!true)=true) by decide)]
   cases X.hold (X.cur s.cursor).table (X.cur s.cursor).p (X.cur s.cursor).frm<;>rfl
 rw [if_neg h14]
 by_cases h17:s.kind=17
 ·rw [if_pos h17]
  cases (X.cur s.cursor).opn<;>rfl
 rw [if_neg h17]
 unfold TxM.at_
 cases hb:(!(X.cur s.cursor).opn || !(X.cur s.cursor).stands || !(X.cur s.cursor).change)
 ·rw [if_neg (by decide)]
  by_cases h16:s.kind=16
  ·rw [if_pos h16];exact hdrop _ _
  ·rw [if_neg h16]
   cases cT (X.col (X.cur s.cursor).table) s.sets
   ·rfl
   ·exact hone _ _ _
 ·rfl
theorem TxI.steps : ∀(l:List StmM) {n c:Nat} {X:TxM},TxI n c X→(∀s∈l,bR s.row∧∀q∈s.sets,q.v.fit)→n+c+l.length≤150→∃n' c',n'+c'=n+c+l.length∧n≤n'∧TxI n' c' (bg X l).1∧(bg X l).1.cols=X.cols
 | [],n,c,X,h,_,_=>⟨n,c,rfl,Nat.le_refl _,h,rfl⟩
 | s::l,n,c,X,h,hf,hn=>by
  rw [List.length_cons]at hn
  obtain⟨n1,c1,e1,le1,h1⟩:=h.step (hf s (List.mem_cons_self ..)).1 (hf s (List.mem_cons_self ..)).2 (by omega)
  obtain⟨n2,c2,e2,le2,h2,h3⟩:=TxI.steps l h1 (fun q hq=>hf q (List.mem_cons_of_mem _ hq)) (by omega)
  exact⟨n2,c2,by rw [List.length_cons];omega,by omega,h2,h3.trans (jv X s)⟩
structure OrI (n:Nat)(O:OrM):Prop where
 well:Well O.cols O.tabs
 few:TabsN n O.tabs
theorem OrI.start {n:Nat}{O:OrM}(h:OrI n O):TxI n 0 (bZ O.cols O.tabs) :=
 ⟨.nil h.well h.few,Nat.zero_le _,(by intro v hv;simp [bZ]at hv;omega),(by intro m hm hop;simp [bZ,lF]at hm;rw [hm]at hop;cases hop),⟨rfl,rfl⟩⟩
theorem OrI.run {n:Nat}{O:OrM}(h:OrI n O)(l:List StmM)(hf:∀s∈l,bR s.row∧∀q∈s.sets,q.v.fit)(hn:n+l.length≤150):OrI (n+l.length) (O.run l).1:=by
 obtain⟨n',c',e,_,h1,h2⟩:=TxI.steps l h.start hf (by omega)
 obtain⟨a,b⟩:=h1.log.well
 rw [h2]at a
 exact⟨a,fun i m hm=>Nat.le_trans (b i m hm) (by omega)⟩
abbrev tAnss : TypeId:=47
theorem qp : (Tryz.prog.info? bl).map (fun i=>(i.zero,i.size,i.bytes))=some (some (.agg #[.int .i64 0,.slice none 0 0,.int .i64 0]),3,40):=by kernel_rfl
abbrev stZ : StmE:=⟨0,0,0,⟨false,0,⟨#[]⟩⟩,⟨none,0,0⟩,⟨none,0,0⟩,⟨0,0,⟨false,0,⟨#[]⟩⟩,⟨false,0,⟨#[]⟩⟩,none,0,0,[]⟩,0,0,false⟩
def TxAnsV (B:World)(D:PH)(x o:Nat)(l:List HP)(p:TxM×AnsM)(qe qn:Int)(e:Ending)(w':World):Prop:=∃(ra:Option Addr) (rn rc:Nat) (D':PH),e = .returned (.agg #[.int .i64 qe,.slice ra rn rc,.int .i64 qn])∧PH.le D D'∧RowsF D' (.slice ra rn rc) p.2.rows∧TxIn B w' D' x o p.1 l
def DoAns (B:World)(D:PH)(l:List HP)(o:Nat)(p:OrM×List AnsM)(e:Ending)(w':World):Prop:=∃(a:Option Addr) (cc:Nat) (D':PH),e = .returned (.slice a p.2.length cc)∧PH.le D D'∧AnsL D' (.slice a p.2.length cc) p.2∧Sat B D' w' (orP D' o p.1::l)
theorem pp {B w:World}{D:PH}{o n:Nat}{O:OrM}{l:List HP}{lev:Int}{sa:Option Addr}{N sc:Nat}{ss:List StmM}(hst:StmL D (.slice sa N sc) ss)(hnp:∀s∈ss,s.pred.nodes.length≤1000000)(hI:OrI n O)(hn:n+ss.length≤150)(h:Sat B D w (orP D o O::l)) :
  Calls Tryz.prog 17 #[.pointer (some ⟨o,0,none⟩),.agg #[.int .i64 lev,.slice sa N sc]] w (DoAns B D l o (O.run ss)):=by
 obtain⟨es,hes,hrd⟩:=hst
 have hel:=hes.len
 have hNl:N=es.length:=by obtain⟨_,_,ao,c,h2,_⟩:=hrd;cases h2;rfl
 subst hNl
 obtain⟨i0,hinf,hz0,hz1,hz2⟩:=info_parts qp
 have uW:=CM (And.intro hinf (And.intro hz0 (And.intro hz1 hz2)))
 clear hinf hz0 hz1 hz2
 have h1:=h.alloc #[.int .i64 lev,.slice sa es.length sc] pT
 obtain⟨W2,hW2,h2⟩:∃W,W=(w.alloc (.cells #[.int .i64 lev,.slice sa es.length sc] pT)).alloc (.cells (aO o (.slice none 0 0) [0,0,0,0] [eV,eV,eV]) tTx)∧TxIn B W D (w.heap.size+1) o (bZ O.cols O.tabs) (blk w.heap.size #[.int .i64 lev,.slice sa es.length sc] pT::l):=by
  have h3:=h1.alloc (aO o (.slice none 0 0) [0,0,0,0] [eV,eV,eV]) tTx
  rw [World.size_alloc]at h3
  refine⟨_,rfl,⟨.slice none 0 0,[],[eV,eV,eV]⟩,⟨.nil,.cons (ja D) (.cons (ja D) (.cons (ja D) .nil)),rfl,rfl,Nat.zero_le _⟩,?_⟩
  have h4:=h3.own_nil dm 5
  exact h4.perm ((List.Perm.swap _ _ _).trans ((((List.Perm.swap _ _ _).cons _).trans (List.Perm.refl _)).cons _))
 have yj:=CM hW2
 have ur:=CM h2
 have wP:=CM hes
 have uw:=CM hrd
 have ye:=CM hnp
 have zv:=CM hI
 have HN:=CM hn
 have xz:=CM hel
 have yH:=CM hI.start
 generalize hNN:es.length=N at *
 have we:=CM hNN
 clear h h1 hW2 h2 hes hrd hnp hI hn hel hNN
 go_enter Tryz.func17,Tryz.ntmps17
 go_upto_region 4 with fail
 have hz:Tryz.zeroCells97.setIfInBounds 0 (.pointer (some ⟨o,0,none⟩))=aO o (.slice none 0 0) [0,0,0,0] [eV,eV,eV]:=rfl
 rw [hz,←yj.out]
 clear hz yj
 generalize w.heap.size+1=bx at ur ⊢
 generalize w.heap.size=bt at ur ⊢
 have ut:=CM (show TxIn B W2 D bx o (bZ O.cols O.tabs) (aF bl 3 (.slice none 0 0) 0 []::blk bt #[.int .i64 lev,.slice sa N sc] pT::l)from by
  obtain⟨H,hH,hs⟩:=ur.out
  exact⟨H,hH,(hs.own_nil bl 3).perm (List.perm_middle (l₁:=txL D bx o (bZ O.cols O.tabs) H) (a:=aF bl 3 (.slice none 0 0) 0 []) (l₂:=blk bt #[.int .i64 lev,.slice sa N sc] pT::l)).symm⟩)
 obtain⟨t0,t1,tf⟩:=bE (ur.out.sat.blk 0 rfl)
 clear ur
 go_wp2_with fail
 clear t0 t1 tf
 go_loopw [6,17] (fun ov idx wr=>∃(j:Nat) (oa:Option Addr) (oc:Nat) (D2:PH) (aes:List AnsE) (n' c':Nat),ov = .slice oa j oc∧idx = .int .i64 j∧j≤N∧PH.le D D2∧aes.length=j∧All2 (AnsOk D2) aes (bg (bZ O.cols O.tabs) (ss.take j)).2∧TxI n' c' (bg (bZ O.cols O.tabs) (ss.take j)).1∧n'+c'=n+j∧TxIn B wr D2 bx o (bg (bZ O.cols O.tabs) (ss.take j)).1 (aF bl 3 (.slice oa j oc) j (aes.flatMap AnsE.cells)::blk bt #[.int .i64 lev,.slice sa N sc] pT::l)) (fun _ idx _=>N-(intOf idx).toNat)
 case atStart=>exact⟨0,none,0,D,[],n,0,rfl,rfl,Nat.zero_le _,PH.le.refl _,rfl,.nil,yH.out,rfl,ut.out⟩
 case round =>
  obtain⟨j,oa,oc,D2,aes,n1,c1,rfl,rfl,hj,hle,hal,hao,hti,hnc,htx⟩:=hrel
  have uF:=CM hle
  have vd:=CM hal
  have Ay:=CM hao
  have wy:=CM hti
  have Bx:=CM hnc
  have uS:=CM htx
  clear hle hal hao hti hnc htx ut
  by_cases hlt:j<N
  ·obtain⟨e,he⟩:∃e,es[j]?=some e:=⟨es[j]'(by rw [we.out];exact hlt),List.getElem?_eq_getElem _⟩
   obtain⟨s,hs,hok⟩:=wP.out.get he
   have wd:=CM (show ss.take (j+1)=ss.take j ++ [s] by rw [List.take_add_one,hs];rfl)
   have hmem:=List.mem_of_getElem? hs
   have vp:=CM (hok.mono uF.out)
   have hfit:bR s.row∧∀q∈s.sets,q.v.fit:=⟨hok.row.2,hok.sets.2⟩
   have zw:=CM (wy.out.step hfit.1 hfit.2 (by have:=Bx.out;have:=HN.out;have:=xz.out;omega))
   have hji:(j:Int)<(N:Int):=by omega
   have hjN:j≤150:=by have:=HN.out;have:=xz.out;omega
   obtain⟨sg,so,rfl,hrg⟩:=bK StmE.len ((uw.out.mono uF.out).rd uS.out.sat) he we.out
   have vJ:=CM (eC hrg)
   have uZ:=CM (uS.out.alloc stZ.cells.toArray tSt)
   clear he hs hok hfit hrg
   go_upto_region 8 with (first|(refine bG rfl _ _ rfl _ _ rfl _ vJ.out ?_)|(refine az rfl _ _ _ rfl tSt wr.heap.size rfl e.cells rfl _ uZ.out (by kernel_rfl) rfl e.one ?_;intro w5 htx5;have uR:=CM htx5;clear htx5 uZ vJ uS))
   generalize wr.heap.size=b8 at uR ⊢
   have vJ:=CM (eC (aA (uR.out.sat.blk 0 rfl)))
   have vk:=CM (rO vp.out (ye.out s hmem) wy.out (by have:=Bx.out;have:=HN.out;have:=xz.out;omega) uR.out)
   have yf:=CM (kJ (bZ O.cols O.tabs) s (ss.take j))
   rw [←wd.out]at yf
   obtain⟨Y,hY⟩:∃Y,(bg (bZ O.cols O.tabs) (ss.take j)).1=Y:=⟨_,rfl⟩
   obtain⟨AS,hAS⟩:∃A,(bg (bZ O.cols O.tabs) (ss.take j)).2=A:=⟨_,rfl⟩
   rw [hY]at vk zw yf uR
   rw [hAS]at Ay yf
   clear wy hY hAS
   clear hmem
   obtain⟨n2,c2,hnc2,-,hti2⟩:=zw.out
   have xu:=CM hti2
   have By:=CM hnc2
   clear hnc2 hti2 zw
   obtain⟨qe,qn,hqe,hqn⟩:∃qe qn,(cC Y s).2.e=qe∧(cC Y s).2.n=qn:=⟨_,_,rfl,rfl⟩
   have HQ:=CM (And.intro hqe hqn)
   rw [show d4 B D2 bx o _ (cC Y s)=TxAnsV B D2 bx o (blk b8 e.cells.toArray tSt::aF bl 3 (.slice oa j oc) j (aes.flatMap AnsE.cells)::blk bt #[.int .i64 lev,.slice (some ⟨sg,so,none⟩) N sc] pT::l) (cC Y s) qe qn by rw [←hqe,←hqn];rfl]at vk
   clear hqe hqn
   go_wp2_with (first|(refine bG rfl _ _ rfl _ _ rfl _ vJ.out ?_)|(go_at_call 39;refine vk.out.mono ?_;rintro e7 w7 ⟨ra,rn,rc,D3,rfl,hle3,hrw3,htx7⟩;have uX:=CM hle3;have vm:=CM hrw3;have yz:=CM htx7.drop;clear hle3 hrw3 htx7 vk uR vJ)|(refine d8 rfl _ _ rfl bl i0 _ (AnsE.cells ⟨qe,ra,rn,rc,qn⟩) rfl Tryz.underlying47 uW.out.1 uW.out.2.1 (uW.out.2.2.1.trans rfl) (by rw [AnsE.len];decide) (by rw [AnsE.len];decide) ?_;have B4:=CM ((yz.out.alloc (AnsE.cells ⟨qe,ra,rn,rc,qn⟩).toArray bl).perm (List.Perm.swap _ _ _));have xY:=CM (cd (size:=3) (n:=1) (aw w7 (.cells (AnsE.cells ⟨qe,ra,rn,rc,qn⟩).toArray bl)) rfl (by unfold maxLen;omega));clear yz)|(at_builtin;refine ff _ rfl _ _ tAnss rfl bl i0 _ 3 40 Tryz.underlying47 uW.out.1 uW.out.2.1 uW.out.2.2.1 uW.out.2.2.2 rfl _ j _ rfl B4.out _ 1 _ rfl xY.out (by simpa using AnsE.one ⟨qe,ra,rn,rc,qn⟩) (by unfold maxLen;omega) (by omega) ?_;intro oa2 oc2 w9 htx9;have CA:=CM (htx9.perm (List.Perm.swap _ _ _)).drop;clear htx9 B4 xY))
   go_roundw
   case rel =>
    refine⟨j+1,oa2,oc2,D3,aes ++ [⟨qe,ra,rn,rc,qn⟩],n2,c2,rfl,by go_num,by omega,uF.out.trans uX.out,by rw [List.length_append,vd.out];rfl,?_,?_,by have:=By.out;have:=Bx.out;omega,?_⟩
    ·rw [yf.out]
     exact(Ay.out.imp (fun _ _ h=>h.mono uX.out)).snoc ⟨HQ.out.1.symm,vm.out,HQ.out.2.symm⟩
    ·rw [yf.out];exact xu.out
    ·rw [yf.out]
     have:=CA.out
     rw [List.flatMap_append,List.flatMap_singleton]
     exact this
   case measure=>simp [intOf];omega
  ·obtain rfl:j=N:=by omega
   have hji:¬((j:Int)<(j:Int)):=by omega
   have hall:ss.take j=ss:=List.take_of_length_le (by have:=xz.out;omega)
   rw [hall]at Ay uS wy
   obtain⟨D3,hle3,hrd3,htx3⟩:=km uS.out
   have HF:=CM (show ∃D',PH.le D D'∧AnsL D' (.slice oa j oc) (O.run ss).2∧Sat B D' _ (orP D' o (O.run ss).1::l)from by
    obtain⟨H,hH,hs⟩:=htx3
    refine⟨D3,uF.out.trans hle3,⟨aes,Ay.out.imp (fun _ _ h=>h.mono hle3),by rw [vd.out];exact hrd3⟩,?_⟩
    have h1:=(ik hs).perm (List.Perm.refl _)
    have h2:Sat B D3 _ (orP D3 o ⟨(bg (bZ O.cols O.tabs) ss).1.cols,(bg (bZ O.cols O.tabs) ss).1.tabs⟩::l):=(((h1.swap.drop).swap.drop).swap.drop)
    have h3:(bg (bZ O.cols O.tabs) ss).1.cols=O.cols:=by
     have:∀(l:List StmM) (X:TxM),(bg X l).1.cols=X.cols:=fun l=>by
      induction l with
      | nil=>intro X;rfl
      | cons s l ih=>intro X;exact(ih _).trans (jv X s)
     exact this ss _
    rw [h3]at h2
    exact h2)
   clear hrd3 htx3 hle3 uS Ay wy
   have hss:ss.length=j:=xz.out.symm
   go_wp2_with fail
   refine bodyPost_ret (results_tmp rfl _ _ _) rfl ?_
   obtain⟨D',f1,f2,f3⟩:=HF.out
   have hl2:(O.run ss).2.length=j:=(gR _ ss).trans hss
   exact⟨oa,oc,D',by rw [hl2];rfl,f1,by rw [hl2];exact f2,f3⟩
end Go.Proofs.YtdobimafhbfkhaaGreat
