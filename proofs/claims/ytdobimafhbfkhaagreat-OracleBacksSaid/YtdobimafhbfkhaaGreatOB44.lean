/- Joined texts: What a statement of a kind does (txn.doing). What stays true of a transaction, step by step, as data. A step keeps what stays true of a transaction. A step of a transaction (txn.step). A transaction is run on an oracle (Oracle.Do). A transaction is run on an oracle: the walk (Oracle.Do). -/
import Derived.Test.YtdobimafhbfkhaaGreatOB43
set_option maxHeartbeats 64000000
namespace Go.Proofs.YtdobimafhbfkhaaGreat
open Go.ChangeShapes Go.WideShapes Go.ChangeAt Go.RowKit
set_option maxRecDepth 100000
set_option linter.unusedSimpArgs false
def doF (k:Int):Nat :=
 if k=4 then 68 else if k=5 then 69 else if k=6 then 70 else if k=7 then 71 else
 if k=8 then 72 else if k=9 then 73 else if k=10 then 74 else if k=11 then 75 else
 if k=12 then 76 else if k=13 then 77 else if k=14 then 78 else if k=17 then 79 else 80
theorem tC {w:World}{x:Nat}{k:Int}(hk:4≤k∧k≤17) :
  Calls Tryz.prog 50 #[.pointer (some ⟨x,0,none⟩),.int .i64 k] w fun e w'=>e = .returned (.func (.func (doF k)) #[.pointer (some ⟨x,0,none⟩)] #[])∧w'=w:=by
 have h:k=4∨k=5∨k=6∨k=7∨k=8∨k=9∨k=10∨k=11∨k=12∨k=13∨k=14∨k=15∨k=16∨k=17:=by omega
 clear hk
 rcases h with rfl|rfl|rfl|rfl|rfl|rfl|rfl|rfl|rfl|rfl|rfl|rfl|rfl|rfl<;>(go_enter Tryz.func50,Tryz.ntmps50;go_wp2_with fail;refine bodyPost_ret (results_tmp rfl _ _ _) rfl ?_;exact⟨rfl,rfl⟩)
end Go.Proofs.YtdobimafhbfkhaaGreat
namespace Go.Proofs.YtdobimafhbfkhaaGreat
set_option linter.unusedSimpArgs false
def TabsN (n:Nat)(T:List ar):Prop:=∀(i:Nat) (m:ar),T[i]?=some m→m.length≤n
inductive LogN (n:Nat)(cols:List (List Bool)):List ar→List BefM→Prop where
 | nil {T:List ar} (h:Well cols T) (hn:TabsN n T):LogN n cols T []
 | cons {T:List ar} {b:BefM} {l:List BefM} (h:Well cols T) (hn:TabsN n T) (hb:BefI cols b) (t:LogN n cols (eN T b) l):LogN n cols T (b::l)
section
variable {n n' : Nat} {cols : List (List Bool)} {T : List ar} {l : List BefM}
theorem LogN.log (h:LogN n cols T l):LogI cols T l:=by
 induction h with
 | nil h _=>exact .nil h
 | cons h _ hb _ ih=>exact .cons h hb ih
theorem LogN.mono (hn:n≤n')(h:LogN n cols T l):LogN n' cols T l:=by
 induction h with
 | nil h h2=>exact .nil h (fun i m hm=>Nat.le_trans (h2 i m hm) hn)
 | cons h h2 hb _ ih=>exact .cons h (fun i m hm=>Nat.le_trans (h2 i m hm) hn) hb ih
theorem LogN.well (h:LogN n cols T l):Well cols T∧TabsN n T:=by cases h with
 | nil a b=>exact⟨a,b⟩
 | cons a b _ _=>exact⟨a,b⟩
theorem LogN.at {T:List ar}{log:List BefM}(h:LogN n cols T log.reverse):∀(d j:Nat),d+j=log.length→LogN n cols (bK T (log.drop j)) (log.take j).reverse
 | 0,j,hj=>by
  rw [List.drop_of_length_le (by omega),List.take_of_length_le (by omega)]
  exact h
 | d+1,j,hj=>by
  have ih:=h.at d (j+1) (by omega)
  have hlt:j<log.length:=by omega
  have e:log.drop j=log[j]::log.drop (j+1):=List.drop_eq_getElem_cons hlt
  rw [e,fM]
  rw [List.take_add_one,List.getElem?_eq_getElem hlt,Option.toList_some,List.reverse_append]at ih
  cases ih with
  | cons _ _ _ t=>exact t
theorem Well.set {i:Nat}{c:List Bool}{m:ar}(h:Well cols T)(hc:cols[i]?=some c)(hm:TabI c m)(hl:m.length≤200):Well cols (T.set i m):=by
 refine⟨by rw [List.length_set];exact h.1,fun j c' m' hc' hm'=>?_⟩
 by_cases hj:i=j
 ·subst hj
  have hlt:i<T.length:=by have:=(List.getElem?_eq_some_iff.1 hm').1;rwa [List.length_set]at this
  rw [List.getElem?_set_self hlt]at hm'
  cases hm'
  rw [hc]at hc'
  cases hc'
  exact⟨hm,hl⟩
 ·rw [List.getElem?_set_ne hj]at hm'
  exact h.2 j c' m' hc' hm'
theorem TabsN.set {i:Nat}{m:ar}(h:TabsN n T)(hl:m.length≤n):TabsN n (T.set i m):=fun j m' hm'=>by
 by_cases hj:i=j
 ·subst hj
  have hlt:i<T.length:=by have:=(List.getElem?_eq_some_iff.1 hm').1;rwa [List.length_set]at this
  rw [List.getElem?_set_self hlt]at hm'
  cases hm'
  exact hl
 ·rw [List.getElem?_set_ne hj]at hm'
  exact h j m' hm'
end
structure TxI (n c:Nat)(X:TxM):Prop where
 log:LogN n X.cols X.tabs X.log.reverse
 len:X.log.length≤n*(c+1)
 saves:∀v∈X.saves,0≤v
 curs:∀m∈X.curs,m.opn=true→(∃i:Nat,m.table=(i:Int)∧i<X.cols.length)∧(m.stands=true→al m.key=true)
 two:X.saves.length=4∧X.curs.length=3
section
variable {n c : Nat} {X : TxM}
theorem TxI.tab (h:TxI n c X){i:Nat}(hi:i<X.cols.length):∃cc m,X.cols[i]?=some cc∧X.tabs[i]?=some m∧TabI cc m∧m.length≤200∧m.length≤n∧TabAt X i cc m:=by
 obtain⟨hw,hn⟩:=h.log.well
 have h2:i<X.tabs.length:=by rw [hw.1];exact hi
 have a:=List.getElem?_eq_getElem hi
 have b:=List.getElem?_eq_getElem h2
 obtain⟨t1,t2⟩:=hw.2 i _ _ a b
 exact⟨_,_,a,b,t1,t2,hn i _ b,b,a,t1,t2⟩
theorem LogN.put (h:LogN n X.cols X.tabs X.log.reverse){i:Nat}{cc:List Bool}{m:ar}{r:List Val}(hc:X.cols[i]?=some cc)(hm:X.tabs[i]?=some m)(hr:bw cc r=true)(hf:bD r){n':Nat}(hn:n≤n')(hl:(cA m r).length≤n')(hl2:(cA m r).length≤200) :
  LogN n' (X.put i r).cols (X.put i r).tabs (X.put i r).log.reverse:=by
 have hw:=h.well.1
 have hT:=(hw.2 i cc m hc hm).1
 have hk:al (aG r)=true:=by obtain⟨k,_,e,hk,_⟩:=dU hr;rw [e];exact hk
 have e1:X.tab (i:Int)=m:=dM hm
 show LogN n' X.cols (X.tabs.set (i:Int).toNat (cA (X.tab i) r)) (X.log ++ [(⟨(i:Int),aG r,(aU (X.tab i) (aG r)).getD []⟩:BefM)]).reverse
 rw [e1,Int.toNat_natCast,List.reverse_append,List.reverse_singleton,List.singleton_append]
 refine .cons (hw.set hc (hT.put hr hf) hl2) (TabsN.set (T:=X.tabs) (fun j m' hj=>Nat.le_trans (h.well.2 j m' hj) hn) hl) ⟨i,cc,rfl,hc,hk,?_⟩ ?_
 ·cases hq:aU m (aG r)with
  | none=>left;rfl
  | some q =>
   obtain⟨q1,q2⟩:=dA hq
   right
   exact⟨hT.fits q q1,hT.fit q q1,q2⟩
 ·rw [oN hm hT hr]
  exact h.mono hn
theorem nD {cc:List Bool}{m:ar}(h:TabI cc m){k:Val}(hk:al k=true)(hf:aU m k=none):dj m k=m:=by
 unfold dj
 refine List.filter_eq_self.2 fun q hq=>?_
 have hne:¬aj (aG q) k=0:=fun h0=>by
  have e:=jn (h.keys q hq) hk h0
  have h1:=ee.2 ⟨q,hq,e⟩
  rw [hf]at h1
  cases h1
 simpa using hne
theorem oC {T:List ar}{i:Nat}{cc:List Bool}{m:ar}{k:Val}(hm:T[i]?=some m)(hI:TabI cc m)(hk:al k=true):eN (T.set i (dj m k)) ⟨(i:Int),k,(aU m k).getD []⟩=T:=by
 cases hf:aU m k with
 | some q=>have:=sE hm hI (k:=k) (by rw [hf];rfl);rw [hf]at this;exact this
 | none =>
  refine mN hm ?_
  show dj (dj m k) k=m
  rw [nD hI hk hf,nD hI hk hf]
theorem LogN.out (h:LogN n X.cols X.tabs X.log.reverse){i:Nat}{cc:List Bool}{m:ar}{k:Val}(hc:X.cols[i]?=some cc)(hm:X.tabs[i]?=some m)(hk:al k=true) :
  LogN n (X.out i k).cols (X.out i k).tabs (X.out i k).log.reverse:=by
 have hw:=h.well.1
 obtain⟨hT,hT2⟩:=hw.2 i cc m hc hm
 have e1:X.tab (i:Int)=m:=dM hm
 show LogN n X.cols (X.tabs.set (i:Int).toNat (dj (X.tab i) k)) (X.log ++ [(⟨(i:Int),k,(aU (X.tab i) k).getD []⟩:BefM)]).reverse
 rw [e1,Int.toNat_natCast,List.reverse_append,List.reverse_singleton,List.singleton_append]
 refine .cons (hw.set hc (hT.del k) (Nat.le_trans (List.length_filter_le ..) hT2)) (h.well.2.set (Nat.le_trans (List.length_filter_le ..) (h.well.2 i m hm))) ⟨i,cc,rfl,hc,hk,?_⟩ ?_
 ·cases hq:aU m k with
  | none=>left;rfl
  | some q =>
   obtain⟨q1,q2⟩:=dA hq
   right
   exact⟨hT.fits q q1,hT.fit q q1,q2⟩
 ·rw [oC hm hT hk]
  exact h
structure SameT (X Y:TxM)(k:Nat):Prop where
 cols:Y.cols=X.cols
 saves:Y.saves=X.saves
 curs:Y.curs=X.curs
 len:Y.log.length=X.log.length+k
theorem oF {i:Nat}{cc:List Bool}:∀(fr:ar) (Y:TxM) (m:ar),LogN n Y.cols Y.tabs Y.log.reverse→Y.cols[i]?=some cc→Y.tabs[i]?=some m→(∀q∈fr,bw cc q=true∧bD q∧(aU m (aG q)).isSome=true)→LogN n (fr.foldl (fun y r=>y.put (i:Int) r) Y).cols (fr.foldl (fun y r=>y.put (i:Int) r) Y).tabs (fr.foldl (fun y r=>y.put (i:Int) r) Y).log.reverse∧SameT Y (fr.foldl (fun y r=>y.put (i:Int) r) Y) fr.length
 | [],Y,m,h,_,_,_=>⟨h,rfl,rfl,rfl,rfl⟩
 | r::fr,Y,m,h,hc,hm,hf=>by
  obtain⟨f1,f2,f3⟩:=hf r (List.mem_cons_self ..)
  have hw:=h.well.1.2 i cc m hc hm
  have hsame:=ji hw.1 f1 f3
  have h1:=h.put hc hm f1 f2 (Nat.le_refl n) (by rw [hsame];exact h.well.2 i m hm) (by rw [hsame];exact hw.2)
  have hlt:=(List.getElem?_eq_some_iff.1 hm).1
  have e1:Y.tab (i:Int)=m:=dM hm
  have hm2:(Y.put (i:Int) r).tabs[i]?=some (cA m r):=by
   show(Y.tabs.set (i:Int).toNat (cA (Y.tab i) r))[i]?=_
   rw [Int.toNat_natCast,List.getElem?_set_self hlt,e1]
  obtain⟨g1,g2⟩:=oF fr (Y.put (i:Int) r) (cA m r) h1 hc hm2 (fun q hq=>⟨(hf q (List.mem_cons_of_mem _ hq)).1,(hf q (List.mem_cons_of_mem _ hq)).2.1,by rw [nK hw.1 f1 f3];exact(hf q (List.mem_cons_of_mem _ hq)).2.2⟩)
  refine⟨g1,g2.cols,g2.saves,g2.curs,?_⟩
  rw [List.foldl_cons,g2.len]
  show(Y.log ++ [_]).length+fr.length=_
  simp only [List.length_append,List.length_cons,List.length_nil];omega
theorem nN {i:Nat}{cc:List Bool}:∀(ks:ar) (Y:TxM) (m:ar),LogN n Y.cols Y.tabs Y.log.reverse→Y.cols[i]?=some cc→Y.tabs[i]?=some m→(∀q∈ks,al (aG q)=true)→LogN n (ks.foldl (fun y r=>y.out (i:Int) (aG r)) Y).cols (ks.foldl (fun y r=>y.out (i:Int) (aG r)) Y).tabs (ks.foldl (fun y r=>y.out (i:Int) (aG r)) Y).log.reverse∧SameT Y (ks.foldl (fun y r=>y.out (i:Int) (aG r)) Y) ks.length
 | [],Y,m,h,_,_,_=>⟨h,rfl,rfl,rfl,rfl⟩
 | r::ks,Y,m,h,hc,hm,hf=>by
  have h1:=h.out hc hm (hf r (List.mem_cons_self ..))
  have hlt:=(List.getElem?_eq_some_iff.1 hm).1
  have e1:Y.tab (i:Int)=m:=dM hm
  have hm2:(Y.out (i:Int) (aG r)).tabs[i]?=some (dj m (aG r)):=by
   show(Y.tabs.set (i:Int).toNat (dj (Y.tab i) (aG r)))[i]?=_
   rw [Int.toNat_natCast,List.getElem?_set_self hlt,e1]
  obtain⟨g1,g2⟩:=nN ks (Y.out (i:Int) (aG r)) (dj m (aG r)) h1 hc hm2 (fun q hq=>hf q (List.mem_cons_of_mem _ hq))
  refine⟨g1,g2.cols,g2.saves,g2.curs,?_⟩
  rw [List.foldl_cons,g2.len]
  show(Y.log ++ [_]).length+ks.length=_
  simp only [List.length_append,List.length_cons,List.length_nil];omega
theorem ld {cc:List Bool}{sets:List SetM}:∀ {l out fr:ar},cz cc sets l out=(fr,0)→fr.length=out.length+l.length
 | [],out,fr,h=>by
  have h':(out,(0:Int))=(fr,0):=h
  rw [←(Prod.mk.inj h').1];rfl
 | q::l,out,fr,h=>by
  have h':(if (cG cc q sets).2=0 then cz cc sets l (out ++ [(cG cc q sets).1])else ([],(cG cc q sets).2))=(fr,0):=h
  split at h'
  ·rw [ld h',List.length_append,List.length_singleton,List.length_cons];omega
  ·next h0=>exact absurd (Prod.mk.inj h').2 h0
theorem gt {cc:List Bool}{m:ar}{sets:List SetM}(hs:∀s∈sets,s.v.fit):∀ {l out fr:ar},(∀q∈l,bw cc q=true∧bD q∧(aU m (aG q)).isSome=true)→(∀q∈out,bw cc q=true∧bD q∧(aU m (aG q)).isSome=true)→cz cc sets l out=(fr,0)→∀q∈fr,bw cc q=true∧bD q∧(aU m (aG q)).isSome=true
 | [],out,fr,_,ho,h=>by
  have h':(out,(0:Int))=(fr,0):=h
  rw [←(Prod.mk.inj h').1];exact ho
 | q::l,out,fr,hl,ho,h=>by
  have h':(if (cG cc q sets).2=0 then cz cc sets l (out ++ [(cG cc q sets).1])else ([],(cG cc q sets).2))=(fr,0):=h
  split at h'
  ·next h0 =>
   refine gt hs (fun p hp=>hl p (List.mem_cons_of_mem _ hp)) (fun p hp=>?_) h'
   rcases List.mem_append.1 hp with hp|hp
   ·exact ho p hp
   ·obtain rfl:=List.mem_singleton.1 hp
    obtain⟨a,b,c⟩:=hl q (List.mem_cons_self ..)
    obtain⟨u1,u2,u3⟩:=mn a b hs h0
    exact⟨u1,u2,by rw [u3];exact c⟩
  ·next h0=>exact absurd (Prod.mk.inj h').2 h0
theorem TxI.all (h:TxI n c X){i:Nat}(hi:i<X.cols.length){l:ar}{sets:List SetM}(hs:∀s∈sets,s.v.fit)(hl:∀m,X.tabs[i]?=some m→∀q∈l,q∈m)(hn:l.length≤n):TxI n (c+1) (X.all (i:Int) l sets).1:=by
 obtain⟨cc,m,hc,hm,hT,h200,hmn,_⟩:=h.tab hi
 have up:n*(c+1)≤n*(c+1+1):=Nat.mul_le_mul_left _ (by omega)
 unfold TxM.all
 rw [lk hc]
 split
 ·next h0 =>
  obtain⟨fr,hfr⟩:∃fr,cz cc sets l []=(fr,0):=⟨(cz cc sets l []).1,by rw [←h0]⟩
  have hlen:=ld hfr
  have hfit:=gt (m:=m) hs (fun q hq=>⟨hT.fits q (hl m hm q hq),hT.fit q (hl m hm q hq),ee.2 ⟨q,hl m hm q hq,rfl⟩⟩) (fun q hq=>by cases hq) hfr
  rw [hfr]
  obtain⟨g1,g2⟩:=oF fr X m h.log hc hm hfit
  refine⟨g1,?_,by rw [g2.saves];exact h.saves,by rw [g2.curs,g2.cols];exact h.curs,by rw [g2.saves,g2.curs];exact h.two⟩
  rw [g2.len,hlen,Nat.mul_succ n (c+1)]
  have:=h.len
  simp only [List.length_nil]
  omega
 ·exact⟨h.log,Nat.le_trans h.len up,h.saves,h.curs,h.two⟩
theorem TxI.more (h:TxI n c X):TxI n (c+1) X:=⟨h.log,Nat.le_trans h.len (Nat.mul_le_mul_left _ (by omega)),h.saves,h.curs,h.two⟩
theorem TxI.one (h:TxI n c X){i:Nat}(hi:i<X.cols.length){k:Val}{sets:List SetM}(hs:∀s∈sets,s.v.fit):TxI n (c+1) (X.one (i:Int) k sets).1:=by
 obtain⟨cc,m,hc,hm,hT,h200,hmn,_⟩:=h.tab hi
 unfold TxM.one
 rw [dM hm]
 cases hf:aU m k with
 | none=>exact h.more
 | some r =>
  refine h.all hi hs (fun m' hm' q hq=>?_) ?_
  ·rw [hm]at hm'
   cases hm'
   obtain rfl:=List.mem_singleton.1 hq
   exact(dA hf).1
  ·have:=List.length_pos_of_mem (dA hf).1
   rw [List.length_singleton];omega
theorem TxI.drop (h:TxI n c X){i:Nat}(hi:i<X.cols.length){k:Val}(hk:al k=true):TxI n (c+1) (X.drop (i:Int) k).1:=by
 obtain⟨cc,m,hc,hm,hT,h200,hmn,_⟩:=h.tab hi
 unfold TxM.drop
 rw [dM hm]
 cases hf:aU m k with
 | none=>exact h.more
 | some r =>
  refine⟨h.log.out hc hm hk,?_,h.saves,h.curs,h.two⟩
  show(X.log ++ [_]).length≤_
  rw [List.length_append,List.length_singleton,Nat.mul_succ n (c+1)]
  have:=List.length_pos_of_mem (dA hf).1
  have:=h.len
  omega
end
section
variable {n c : Nat} {X : TxM} {s : StmM}
theorem dK (h:okS X.cols s=true)(hk:s.kind=6∨s.kind=7∨s.kind=8∨s.kind=9∨s.kind=10∨s.kind=11∨s.kind=12∨s.kind=13):∃(i:Nat) (cc:List Bool),s.table=(i:Int)∧X.cols[i]?=some cc∧cO cc=true ∧
  okS X.cols s=okK s.kind (al s.key&&decide (s.key.t=cc.getD 0 false)) (dB cc s.pred) (dn cc s.sets) (iA s) (cw s) (bw cc s.row) (decide (s.pred.nodes.length≤13)):=by
 cases his:(decide (0≤s.table)&&decide (s.table<(X.cols.length:Int))&&cO (X.cols.getD s.table.toNat []))with
 | false =>
  rw [pp his]at h
  rcases hk with hk|hk|hk|hk|hk|hk|hk|hk<;>rw [hk]at h<;>exact absurd h (by simp [okK])
 | true =>
  simp only [Bool.and_eq_true,decide_eq_true_eq]at his
  obtain⟨⟨h1,h2⟩,h3⟩:=his
  have hlt:s.table.toNat<X.cols.length:=by omega
  have hc:=List.getElem?_eq_getElem hlt
  rw [List.getD_eq_getElem?_getD,hc]at h3
  refine⟨s.table.toNat,X.cols[s.table.toNat],by omega,hc,h3,ql (by omega) hc h3⟩
theorem iQ (h:okS X.cols s=true):4≤s.kind∧s.kind≤17:=by
 refine Classical.byContradiction fun hn=>?_
 have h4:s.kind≠4:=by omega
 have h5:s.kind≠5:=by omega
 have h6:s.kind≠6:=by omega
 have h7:s.kind≠7:=by omega
 have h8:s.kind≠8:=by omega
 have h9:s.kind≠9:=by omega
 have h10:s.kind≠10:=by omega
 have h11:s.kind≠11:=by omega
 have h12:s.kind≠12:=by omega
 have h13:s.kind≠13:=by omega
 have h14:¬(14≤s.kind∧s.kind≤17):=by omega
 unfold okS at h
 simp only [h4,h5,h6,h7,h8,h9,h10,h11,h12,h13,h14,or_self,if_false]at h
 exact absurd h (by simp)
theorem mZ (h:okS X.cols s=true)(hk:13≤s.kind):∃k:Nat,s.cursor=(k:Int)∧k<3:=by
 have hr:=iQ h
 have hc:iA s=true:=by
  unfold okS at h
  by_cases h13:s.kind=13
  ·simp only [h13]at h
   simp at h
   unfold iA
   simp
   exact h.1.2
  ·have h4:s.kind≠4:=by omega
   have h5:s.kind≠5:=by omega
   have h6:s.kind≠6:=by omega
   have h7:s.kind≠7:=by omega
   have h8:s.kind≠8:=by omega
   have h9:s.kind≠9:=by omega
   have h10:s.kind≠10:=by omega
   have h11:s.kind≠11:=by omega
   have h12:s.kind≠12:=by omega
   have h14:14≤s.kind∧s.kind≤17:=by omega
   simp only [h4,h5,h6,h7,h8,h9,h10,h11,h12,h13,h14,or_self,if_false,and_self,if_true]at h
   exact h
 unfold iA at hc
 simp only [Bool.and_eq_true,decide_eq_true_eq]at hc
 exact⟨s.cursor.toNat,by omega,by omega⟩
theorem i4 (h:okS X.cols s=true)(hk:s.kind=4∨s.kind=5):∃k:Nat,s.save=(k:Int)∧k<4:=by
 unfold okS at h
 simp only [hk,if_true,Bool.and_eq_true,decide_eq_true_eq]at h
 exact⟨s.save.toNat,by omega,by omega⟩
theorem TxI.setCur (h:TxI n c X)(k:Int)(m:CurM)(hm:m.opn=true→(∃i:Nat,m.table=(i:Int)∧i<X.cols.length)∧(m.stands=true→al m.key=true)):TxI n (c+1) (X.setCur k m):=by
 refine⟨h.more.log,h.more.len,h.saves,fun q hq=>?_,⟨h.two.1,by show(X.curs.set k.toNat m).length=3;rw [List.length_set];exact h.two.2⟩⟩
 rcases List.mem_or_eq_of_mem_set hq with hq|rfl
 ·exact h.curs q hq
 ·exact hm
theorem TxI.cur (h:TxI n c X){k:Nat}(hk:k<3):∃m,X.curs[k]?=some m∧X.cur (k:Int)=m∧(m.opn=true→(∃i:Nat,m.table=(i:Int)∧i<X.cols.length)∧(m.stands=true→al m.key=true)):=by
 have hlt:k<X.curs.length:=by rw [h.two.2];exact hk
 have e:=List.getElem?_eq_getElem hlt
 exact⟨_,e,mv e,h.curs _ (List.getElem_mem hlt)⟩
theorem TxI.back (h:TxI n c X){k:Nat}(hk:k<4):TxI n (c+1) (X.back (k:Int)).1:=by
 obtain⟨v,hv⟩:∃v,X.saves[k]?=some v:=⟨X.saves[k]'(by rw [h.two.1];exact hk),List.getElem?_eq_getElem _⟩
 have h0:=h.saves v (List.mem_of_getElem? hv)
 rcases Int.lt_or_eq_of_le h0 with hp|rfl
 ·obtain⟨A,rfl⟩:∃A:Nat,v=(A:Int)+1:=⟨(v-1).toNat,by omega⟩
  rw [lJ hv]
  have hm:=h.more
  have hj:∃j,j≤X.log.length∧X.yb A=X.yb j:=by
   by_cases hA:A≤X.log.length
   ·exact⟨A,hA,rfl⟩
   ·exact⟨X.log.length,Nat.le_refl _,tt X (Nat.le_refl _) (.inr rfl) (by omega)⟩
  obtain⟨j,hj1,hj2⟩:=hj
  rw [hj2]
  refine⟨(h.log.at (X.log.length-j) j (by omega)),?_,?_,h.curs,⟨?_,h.two.2⟩⟩
  ·show(X.log.take j).length≤_
   have:=hm.len
   rw [List.length_take];omega
  ·intro q hq
   obtain⟨p,hp,rfl⟩:=List.mem_map.1 hq
   have:=h.saves p hp
   split<;>omega
  ·show(X.saves.map _).length=4
   rw [List.length_map];exact h.two.1
 ·rw [l6 hv];exact h.more
theorem TxI.fetch (h:TxI n c X){k:Nat}(hk:k<3):TxI n (c+1) (X.fetch (k:Int)).1:=by
 obtain⟨m,hm,hcm,hcur⟩:=h.cur hk
 cases hop:m.opn with
 | false =>
  have e:X.fetch (k:Int)=(X,cd 161):=by unfold TxM.fetch;rw [hcm,hop];rfl
  rw [e];exact h.more
 | true =>
  obtain⟨⟨i,hti,hi⟩,hst⟩:=hcur hop
  obtain⟨cc,mt,hc,hmt,hT,h200,hmn,_⟩:=h.tab hi
  cases hr:cL mt m.p m.frm with
  | nil =>
   rw [lS hcm hop hti hmt hr]
   exact h.setCur _ _ (fun _=>⟨⟨i,hti,hi⟩,fun h2=>by cases h2⟩)
  | cons r rs =>
   rw [kT hcm hop hti hmt hr]
   refine h.setCur _ _ (fun _=>⟨⟨i,hti,hi⟩,fun _=>?_⟩)
   exact hT.keys r (ec (by rw [hr];exact List.mem_cons_self ..))
theorem TxI.at_ (h:TxI n c X){k:Nat}(hi:s.cursor=(k:Int))(hk:k<3)(hs:∀q∈s.sets,q.v.fit):TxI n (c+1) (X.at_ s).1:=by
 obtain⟨m,hm,hcm,hcur⟩:=h.cur hk
 unfold TxM.at_
 rw [hi,hcm]
 split
 ·exact h.more
 ·next hno =>
  have hop:m.opn=true:=by cases h1:m.opn<;>simp [h1]at hno ⊢
  have hst:m.stands=true:=by cases h1:m.stands<;>simp [h1]at hno ⊢
  obtain⟨⟨i,hti,hil⟩,hkey⟩:=hcur hop
  rw [hti]
  split
  ·exact h.drop hil (hkey hst)
  ·split
   ·exact h.more
   ·exact h.one hil hs
theorem TxI.step (h:TxI n c X)(hf:bD s.row)(hs:∀q∈s.sets,q.v.fit)(hn:n+1≤200):∃n' c',n'+c'=n+c+1∧n≤n'∧TxI n' c' (cu X s).1:=by
 have keep:∀Y,TxI n (c+1) Y→∃n' c',n'+c'=n+c+1∧n≤n'∧TxI n' c' Y:=fun Y hY=>⟨n,c+1,by omega,Nat.le_refl _,hY⟩
 unfold cu
 cases hok:okS X.cols s with
 | false=>exact keep _ h.more
 | true =>
  have hr:=iQ hok
  rw [if_neg (show ¬((!true)=true) by decide)]
  by_cases hk:s.kind=4
  ·rw [if_pos hk]
   refine keep _ ⟨h.more.log,h.more.len,fun q hq=>?_,h.curs,⟨by show(X.saves.set _ _).length=4;rw [List.length_set];exact h.two.1,h.two.2⟩⟩
   rcases List.mem_or_eq_of_mem_set hq with hq|rfl
   ·exact h.saves q hq
   ·omega
  rw [if_neg hk]
  have hn4:=hk
  clear hk
  by_cases hk:s.kind=5
  ·rw [if_pos hk]
   obtain⟨k,hk1,hk2⟩:=i4 hok (.inr hk)
   rw [hk1]
   exact keep _ (h.back hk2)
  rw [if_neg hk]
  have hn5:=hk
  clear hk
  by_cases hk:s.kind=6
  ·rw [if_pos hk];exact keep _ h.more
  rw [if_neg hk]
  have hn6:=hk
  clear hk
  by_cases hk:s.kind=7
  ·rw [if_pos hk]
   obtain⟨i,cc,hti,hc,hm,he⟩:=dK hok (.inr (.inl hk))
   have hi:=(List.getElem?_eq_some_iff.1 hc).1
   obtain⟨cc',m,hc',hmt,hT,h200,hmn,_⟩:=h.tab hi
   rw [hc]at hc'
   cases hc'
   have hfit:bw cc s.row=true:=by rw [hok]at he;rw [hk]at he;simpa [okK]using he
   split
   ·exact keep _ h.more
   ·next hno =>
    rw [hti]at hno ⊢
    rw [dM hmt]at hno
    have hlen:(cA m s.row).length=m.length+1:=by
     rw [ki hT hfit]
     rw [if_neg hno]
    refine⟨n+1,c,by omega,by omega,h.log.put hc hmt hfit hf (by omega) (by omega) (by omega),?_,h.saves,h.curs,h.two⟩
    show(X.log ++ [_]).length≤_
    rw [List.length_append,List.length_singleton,Nat.succ_mul]
    have:=h.len
    omega
  rw [if_neg hk]
  have hn7:=hk
  clear hk
  by_cases hk:s.kind=8
  ·rw [if_pos hk]
   obtain⟨i,cc,hti,hc,hm,he⟩:=dK hok (.inr (.inr (.inl hk)))
   rw [hti]
   exact keep _ (h.one (List.getElem?_eq_some_iff.1 hc).1 hs)
  rw [if_neg hk]
  have hn8:=hk
  clear hk
  by_cases hk:s.kind=9
  ·rw [if_pos hk]
   obtain⟨i,cc,hti,hc,hm,he⟩:=dK hok (.inr (.inr (.inr (.inl hk))))
   rw [hti]
   have hkr:al s.key=true:=by rw [hok]at he;rw [hk]at he;simp [okK]at he;exact he.1
   exact keep _ (h.drop (List.getElem?_eq_some_iff.1 hc).1 hkr)
  rw [if_neg hk]
  have hn9:=hk
  clear hk
  by_cases hk:s.kind=10
  ·rw [if_pos hk];exact keep _ h.more
  rw [if_neg hk]
  have hn10:=hk
  clear hk
  by_cases hk:s.kind=11
  ·rw [if_pos hk]
   obtain⟨i,cc,hti,hc,hm,he⟩:=dK hok (.inr (.inr (.inr (.inr (.inr (.inl hk))))))
   have hi:=(List.getElem?_eq_some_iff.1 hc).1
   obtain⟨cc',m,hc',hmt,hT,h200,hmn,_⟩:=h.tab hi
   rw [hti,cX hmt]
   exact keep _ (h.all hi hs (fun m' hm' q hq=>by rw [hmt]at hm';cases hm';exact ec hq) (iD hmn))
  rw [if_neg hk]
  have hn11:=hk
  clear hk
  by_cases hk:s.kind=12
  ·rw [if_pos hk]
   obtain⟨i,cc,hti,hc,hm,he⟩:=dK hok (.inr (.inr (.inr (.inr (.inr (.inr (.inl hk)))))))
   have hi:=(List.getElem?_eq_some_iff.1 hc).1
   obtain⟨cc',m,hc',hmt,hT,h200,hmn,_⟩:=h.tab hi
   rw [hti,cX hmt]
   obtain⟨g1,g2⟩:=nN (cL m s.pred bZ) X m h.log hc' hmt (fun q hq=>hT.keys q (ec hq))
   refine keep _ ⟨g1,?_,by rw [g2.saves];exact h.saves,by rw [g2.curs,g2.cols];exact h.curs,by rw [g2.saves,g2.curs];exact h.two⟩
   have h1:=iD (p:=s.pred) (s:=bZ) hmn
   rw [g2.len,Nat.mul_succ n (c+1)]
   have:=h.len
   omega
  rw [if_neg hk]
  have hn12:=hk
  clear hk
  by_cases hk:s.kind=13
  ·rw [if_pos hk]
   obtain⟨i,cc,hti,hc,hm,he⟩:=dK hok (.inr (.inr (.inr (.inr (.inr (.inr (.inr hk)))))))
   exact keep _ (h.setCur _ _ (fun _=>⟨⟨i,hti,(List.getElem?_eq_some_iff.1 hc).1⟩,fun h2=>by cases h2⟩))
  rw [if_neg hk]
  have hn13:=hk
  clear hk
  have h14:13≤s.kind:=by omega
  obtain⟨k,hk1,hk2⟩:=mZ hok h14
  by_cases hk:s.kind=14
  ·rw [if_pos hk,hk1];exact keep _ (h.fetch hk2)
  rw [if_neg hk]
  have hn14:=hk
  clear hk
  by_cases hk:s.kind=17
  ·rw [if_pos hk]
   cases (X.cur s.cursor).opn
   ·exact keep _ h.more
   ·exact keep _ (h.setCur _ _ (fun h2=>by cases h2))
  ·rw [if_neg hk];exact keep _ (h.at_ hk1 hk2 hs)
end
end Go.Proofs.YtdobimafhbfkhaaGreat
namespace Go.Proofs.YtdobimafhbfkhaaGreat
open Go.ChangeShapes Go.WideShapes Go.ChangeAt Go.RowKit
set_option maxRecDepth 100000
set_option linter.unusedSimpArgs false
theorem TxI.sizes {n c:Nat}{X:TxM}(h:TxI n c X)(hn:n+c≤150):X.log.length+200≤10000:=by
 have h1:=h.len
 have h2:n*(c+1)≤n*(151-n):=Nat.mul_le_mul_left _ (by omega)
 have h3:∀k:Fin 151,k.val*(151-k.val)≤5776:=by decide +kernel
 have h4:=h3 ⟨n,by omega⟩
 simp only at h4
 omega
theorem TabI.short {cc:List Bool}{m:ar}(h:TabI cc m):∀r∈m,0<r.length∧r.length≤1000000:=fun r hr=>by
 have h1:=cI (h.fits r hr)
 have h2:=h1.2
 unfold cO at h2
 simp at h2
 omega
theorem do_ok {B w:World}{D:PH}{x o n c:Nat}{X:TxM}{l:List HP}{e:StmE}{s:StmM}(hs:StmOk D e s)(hI:TxI n c X)(hn:n+c≤150)(hok:okS X.cols s=true)(h:TxIn B w D x o X l) :
  Calls Tryz.prog (doF s.kind) #[.pointer (some ⟨x,0,none⟩),.agg e.cells.toArray] w (dV B D x o l (cu X s)):=by
 have hr:=iQ hok
 have hsz:=hI.sizes hn
 have hst:cu X s=if s.kind=4 then X.save s else if s.kind=5 then X.back s.save else if s.kind=6 then X.get s else if s.kind=7 then X.insert s else if s.kind=8 then X.one s.table s.key s.sets else if s.kind=9 then X.drop s.table s.key else
   if s.kind=10 then X.pick s else if s.kind=11 then X.change s else if s.kind=12 then X.clear s else if s.kind=13 then X.opens s else if s.kind=14 then X.fetch s.cursor else if s.kind=17 then X.close s else X.at_ s:=by
  unfold cu
  rw [hok]
  rfl
 rw [hst]
 unfold doF
 by_cases h4:s.kind=4
 ·rw [if_pos h4,if_pos h4]
  obtain⟨k,hk1,hk2⟩:=i4 hok (.inl h4)
  exact rt hs hk1 hk2 h
 rw [if_neg h4,if_neg h4]
 by_cases h5:s.kind=5
 ·rw [if_pos h5,if_pos h5]
  obtain⟨k,hk1,hk2⟩:=i4 hok (.inr h5)
  exact qI hs hk1 hk2 hI.log.log hI.saves h
 rw [if_neg h5,if_neg h5]
 have tab:(s.kind=6∨s.kind=7∨s.kind=8∨s.kind=9∨s.kind=10∨s.kind=11∨s.kind=12∨s.kind=13)→∃(i:Nat) (cc:List Bool) (m:ar),s.table=(i:Int)∧X.cols[i]?=some cc∧X.tabs[i]?=some m∧TabI cc m∧m.length≤200∧m.length≤n∧okK s.kind (al s.key&&decide (s.key.t=cc.getD 0 false)) (dB cc s.pred) (dn cc s.sets) (iA s) (cw s) (bw cc s.row) (decide (s.pred.nodes.length≤13))=true:=fun hk=>by
  obtain⟨i,cc,hti,hc,hm,he⟩:=dK hok hk
  obtain⟨cc',m,hc',hmt,hT,h200,hmn,_⟩:=hI.tab (List.getElem?_eq_some_iff.1 hc).1
  rw [hc]at hc'
  cases hc'
  exact⟨i,cc,m,hti,hc,hmt,hT,h200,hmn,by rw [←he];exact hok⟩
 by_cases h6:s.kind=6
 ·rw [if_pos h6,if_pos h6]
  obtain⟨i,cc,m,hti,hc,hmt,hT,_⟩:=tab (.inl h6)
  exact rS hs hti hmt (fun r hr=>(hT.short r hr).2) h
 rw [if_neg h6,if_neg h6]
 by_cases h7:s.kind=7
 ·rw [if_pos h7,if_pos h7]
  obtain⟨i,cc,m,hti,hc,hmt,hT,h200,hmn,he⟩:=tab (.inr (.inl h7))
  rw [h7]at he
  have hfit:bw cc s.row=true:=by simpa [okK]using he
  obtain⟨k0,h0,hk0,hk1,_⟩:=dU hfit
  have h1:=cI hfit
  have h2:=h1.2
  unfold cO at h2
  simp at h2
  exact nW hs hti hmt h0 hk1 (fun hno=>by rw [ki hT hfit];split<;>omega) (by omega) (by omega) h
 rw [if_neg h7,if_neg h7]
 by_cases h8:s.kind=8
 ·rw [if_pos h8,if_pos h8]
  obtain⟨i,cc,m,hti,hc,hmt,hT,h200,hmn,he⟩:=tab (.inr (.inr (.inl h8)))
  exact oJ hs hti hmt hc hT h200 (by omega) h
 rw [if_neg h8,if_neg h8]
 by_cases h9:s.kind=9
 ·rw [if_pos h9,if_pos h9]
  obtain⟨i,cc,m,hti,hc,hmt,hT,h200,hmn,he⟩:=tab (.inr (.inr (.inr (.inl h9))))
  rw [h9]at he
  have hkr:al s.key=true:=by simp [okK]at he;exact he.1
  exact nz hs hti hmt hkr (by omega) h
 rw [if_neg h9,if_neg h9]
 by_cases h10:s.kind=10
 ·rw [if_pos h10,if_pos h10]
  obtain⟨i,cc,m,hti,hc,hmt,hT,h200,hmn,he⟩:=tab (.inr (.inr (.inr (.inr (.inl h10)))))
  exact qH hs hti hmt (fun r hr=>(hT.short r hr).2) h
 rw [if_neg h10,if_neg h10]
 by_cases h11:s.kind=11
 ·rw [if_pos h11,if_pos h11]
  obtain⟨i,cc,m,hti,hc,hmt,hT,h200,hmn,he⟩:=tab (.inr (.inr (.inr (.inr (.inr (.inl h11))))))
  exact nG hs hti hmt hc hT h200 (fun r hr=>(hT.short r hr).2) hsz h
 rw [if_neg h11,if_neg h11]
 by_cases h12:s.kind=12
 ·rw [if_pos h12,if_pos h12]
  obtain⟨i,cc,m,hti,hc,hmt,hT,h200,hmn,he⟩:=tab (.inr (.inr (.inr (.inr (.inr (.inr (.inl h12)))))))
  exact oV hs hti hmt hT h200 (fun r hr=>(hT.short r hr).2) hsz h
 rw [if_neg h12,if_neg h12]
 obtain⟨k,hk1,hk2⟩:=mZ hok (show 13≤s.kind by omega)
 obtain⟨m,hm,hcm,hcur⟩:=hI.cur hk2
 by_cases h13:s.kind=13
 ·rw [if_pos h13,if_pos h13]
  exact qG hs hk1 hk2 h
 rw [if_neg h13,if_neg h13]
 by_cases h14:s.kind=14
 ·rw [if_pos h14,if_pos h14]
  refine pR hs hk1 hk2 hm (fun hop=>?_) h
  obtain⟨⟨i,hti,hi⟩,_⟩:=hcur hop
  obtain⟨cc,mt,hc,hmt,hT,_⟩:=hI.tab hi
  exact⟨i,mt,hti,hmt,hT.short⟩
 rw [if_neg h14,if_neg h14]
 by_cases h17:s.kind=17
 ·rw [if_pos h17,if_pos h17]
  exact pr hs hk1 hk2 hm h
 rw [if_neg h17,if_neg h17]
 refine txAt_ok hs hk1 hk2 hm (fun hop hst=>?_) (by omega) h
 obtain⟨⟨i,hti,hi⟩,hkey⟩:=hcur hop
 obtain⟨cc,mt,hc,hmt,hT,h200,hmn,hta⟩:=hI.tab hi
 exact⟨i,cc,mt,hti,hta,hkey hst⟩
theorem tx_tbls {B w:World}{D:PH}{x o:Nat}{X:TxM}{l:List HP}(h:TxIn B w D x o X l):∃ta tc,w.cell? ⟨x,0,none⟩=some (.pointer (some ⟨o,0,none⟩))∧w.cell? ⟨o,0,none⟩=some (.slice ta X.cols.length tc)∧TblsAt D (.slice ta X.cols.length tc) X.cols:=by
 obtain⟨H,hH,hs⟩:=h
 obtain⟨c0,_,_⟩:=cQ hs
 obtain⟨y,hy,hs2⟩:=fV (gY hs)
 obtain⟨d0,_⟩:=dp hs2
 have ht:=hy.1
 obtain⟨us,h1,h2,h3,h4⟩:=id ht
 obtain⟨ta,tc,hv⟩:=h3.shape
 have hv2:y.tv = .slice ta X.cols.length tc:=hv
 rw [hv2]at d0 ht
 exact⟨ta,tc,c0,d0,ht⟩
theorem px {k:Int}(hk:4≤k∧k≤17):∀args w,(callFunc (doF k) args).run Tryz.prog w = .ok (.enter (doF k) args) w:=by
 have h:k=4∨k=5∨k=6∨k=7∨k=8∨k=9∨k=10∨k=11∨k=12∨k=13∨k=14∨k=15∨k=16∨k=17:=by omega
 rcases h with rfl|rfl|rfl|rfl|rfl|rfl|rfl|rfl|rfl|rfl|rfl|rfl|rfl|rfl
 ·exact enters_of Tryz.func68 (by kernel_rfl) rfl
 ·exact enters_of Tryz.func69 (by kernel_rfl) rfl
 ·exact enters_of Tryz.func70 (by kernel_rfl) rfl
 ·exact enters_of Tryz.func71 (by kernel_rfl) rfl
 ·exact enters_of Tryz.func72 (by kernel_rfl) rfl
 ·exact enters_of Tryz.func73 (by kernel_rfl) rfl
 ·exact enters_of Tryz.func74 (by kernel_rfl) rfl
 ·exact enters_of Tryz.func75 (by kernel_rfl) rfl
 ·exact enters_of Tryz.func76 (by kernel_rfl) rfl
 ·exact enters_of Tryz.func77 (by kernel_rfl) rfl
 ·exact enters_of Tryz.func78 (by kernel_rfl) rfl
 ·exact enters_of Tryz.func80 (by kernel_rfl) rfl
 ·exact enters_of Tryz.func80 (by kernel_rfl) rfl
 ·exact enters_of Tryz.func79 (by kernel_rfl) rfl
theorem qJ {B w:World}{D:PH}{x o n c:Nat}{X:TxM}{l:List HP}{e:StmE}{s:StmM}(hs:StmOk D e s)(hnp:s.pred.nodes.length≤1000000)(hI:TxI n c X)(hn:n+c≤150)(h:TxIn B w D x o X l) :
  Calls Tryz.prog 39 #[.pointer (some ⟨x,0,none⟩),.agg e.cells.toArray] w (dV B D x o l (cu X s)):=by
 obtain⟨W0,hW0,h2⟩:=dL h e.cells.toArray aZ tSt bq
 have ul:=B5 hW0
 obtain⟨ta,tc,c0,d0,ht⟩:=tx_tbls h2
 have hk0:Kept (fun _=>False) W0 W0.drew:=(Kept.refl (fun _=>False) W0).drew
 have hpool:PH.le D (aH W0.drew):=(h2.kept hk0).sat.pool
 have uM:=B5 (si (ht.mono hpool) (hs.mono hpool) hnp)
 have xZ:=B5 (fD (aA ((h2.kept hk0).sat.blk 1 rfl)))
 have tO:=B5 h2
 have ui:=B5 hs
 have HI:=B5 hI
 have HN:=B5 hn
 clear h hs hnp hI hn hW0 h2 ht hk0 hpool
 go_enter Tryz.func39,Tryz.ntmps39
 go_upto_region 1 with fail
 rw [←ul.out]
 clear ul
 generalize w.heap.size+1=ba at tO xZ ⊢
 generalize w.heap.size=bs at tO xZ ⊢
 refine af [(0,false,8),(1,false,8),(2,false,8),(3,false,8),(4,false,8),(5,false,8),(6,false,8),(7,false,8),(8,true,0),(9,false,999)] (by kernel_rfl) (by kernel_rfl) ?_
 iterate 8 (refine ae rfl rfl (fun K hK=>?_);(first|((refine d9 _ _ rfl _ _ rfl _ xZ.out ?_);go_simp)|go_simp);refine hK _ ?_;clear hK K)
 refine ah rfl ?_
 refine aq rfl (fun K hK=>?_)
 go_simp
 refine uM.out.mono ?_
 rintro e1 w1 ⟨rfl,hk1⟩
 have tD:=B5 ((tO.out.kept (Kept.refl (fun _=>False) W0).drew).kept hk1)
 clear hk1 uM xZ tO c0 d0
 refine hK _ _ ?_
 clear hK K
 refine wpList_nil ?_
 refine And.intro ?_ ?_
 ·go_simp
 refine ae rfl rfl (fun K hK=>?_);(first|((refine d9 _ _ rfl _ _ rfl _ xZ.out ?_);go_simp)|go_simp);refine hK _ ?_;clear hK K
 refine ai ?_
 cases hok:okS X.cols s with
 | false =>
  have HE:=B5 (show cu X s=(X,cd 167) by unfold cu;rw [hok];rfl)
  clear hok
  go_wp2_with (refine ay rfl _ _ _ rfl bq ba rfl [.int .i64 167,.slice none 0 0,.int .i64 0] rfl aZ tD.out (by kernel_rfl) rfl (by intro u hu;simp at hu;rcases hu with rfl|rfl|rfl<;>rfl) ?_;intro w6 hs6;have tJ:=B5 hs6;clear hs6 tD)
  refine bodyPost_ret (aR rfl _ _ rfl (bE rfl (aA (tJ.out.sat.blk 0 rfl)))) rfl ?_
  rw [HE.out]
  exact⟨none,0,0,D,rfl,PH.le.refl _,RowsF.nil _,tJ.out.drop.drop⟩
 | true =>
  have xx:=B5 (do_ok ui.out HI.out HN.out hok tD.out)
  have hr:=iQ hok
  obtain⟨x0,x2,x3,x4,x5,x6,x7,x17,x18,x19⟩:=bQ (tD.out.sat.blk 1 rfl)
  rw [ui.out.kind]at x0
  have Bm:=B5 (tC (w:=w1) (x:=x) hr)
  have hent:=px hr
  clear hok hr
  go_upto_region 5 with (go_at_call 50;refine Bm.out.mono ?_;rintro e2 w2 ⟨rfl,rfl⟩)
  have xZ:=B5 (fD (aA (tD.out.sat.blk 1 rfl)))
  clear x0 x2 x3 x4 x5 x6 x7 x17 x18 x19 Bm
  generalize doF s.kind=dk at *
  go_wp2_with (first|(refine bF rfl _ _ rfl _ _ rfl _ xZ.out ?_)|(refine xx.out.mono ?_;rintro e2 w3 ⟨ra,rn,rc,D2,rfl,hle,hrw,hs3⟩;have ub:=B5 hle;have uH:=B5 hrw;have tH:=B5 hs3;clear hle hrw hs3 xx tD xZ)|(refine ay rfl _ _ _ rfl bq ba rfl [_,.slice ra rn rc,_] rfl aZ tH.out (by kernel_rfl) rfl (by intro u hu;simp at hu;rcases hu with rfl|rfl|rfl<;>rfl) ?_;intro w6 hs6;have tJ:=B5 hs6;clear hs6 tH))
  refine bodyPost_ret (aR rfl _ _ rfl (bE rfl (aA (tJ.out.sat.blk 0 rfl)))) rfl ?_
  exact⟨ra,rn,rc,D2,rfl,ub.out,uH.out,tJ.out.drop.drop⟩
abbrev nx : TypeId:=51
structure AnsE where
 e:Int
 ra:Option Addr
 rn:Nat
 rc:Nat
 n:Int
def AnsE.cells (a:AnsE):List Value:=[.int .i64 a.e,.slice a.ra a.rn a.rc,.int .i64 a.n]
theorem AnsE.len (a:AnsE):a.cells.length=3:=rfl
theorem AnsE.one (a:AnsE):∀u∈a.cells,u.oneCell'=true:=by intro u hu;simp [AnsE.cells]at hu;rcases hu with rfl|rfl|rfl<;>rfl
def AnsOk (D:PH)(a:AnsE)(m:AnsM):Prop:=a.e=m.e∧RowsF D (.slice a.ra a.rn a.rc) m.rows∧a.n=m.n
theorem AnsOk.mono {D D':PH}(le:PH.le D D'){a:AnsE}{m:AnsM}(h:AnsOk D a m):AnsOk D' a m:=⟨h.1,h.2.1.mono le,h.2.2⟩
def AnsL (D:PH)(v:Value)(ams:List AnsM):Prop:=∃es:List AnsE,All2 (AnsOk D) es ams∧RdP D 3 v es.length (es.flatMap AnsE.cells)
def StmL (D:PH)(v:Value)(ss:List StmM):Prop:=∃es:List StmE,All2 (StmOk D) es ss∧RdP D 20 v es.length (es.flatMap StmE.cells)
theorem ir (X:TxM)(s:StmM):∀l:List StmM,bY X (l ++ [s])=((cu (bY X l).1 s).1,(bY X l).2 ++ [(cu (bY X l).1 s).2])
 | []=>rfl
 | a::l=>by
  show((bY (cu X a).1 (l ++ [s])).1,(cu X a).2::(bY (cu X a).1 (l ++ [s])).2)=_
  rw [ir (cu X a).1 s l]
  rfl
theorem jg (X:TxM):∀l:List StmM,(bY X l).2.length=l.length
 | []=>rfl
 | a::l=>by
  show((cu X a).2::(bY (cu X a).1 l).2).length=_
  rw [List.length_cons,jg,List.length_cons]
theorem lZ (X:TxM)(s:StmM):(cu X s).1.cols=X.cols:=by
 have put:∀(fr:ar) (i:Int) (Y:TxM),(fr.foldl (fun y r=>y.put i r) Y).cols=Y.cols:=fun fr i=>by
  induction fr with
  | nil=>intro Y;rfl
  | cons r fr ih=>intro Y;rw [List.foldl_cons,ih];rfl
 have outs:∀(fr:ar) (i:Int) (Y:TxM),(fr.foldl (fun y r=>y.out i (aG r)) Y).cols=Y.cols:=fun fr i=>by
  induction fr with
  | nil=>intro Y;rfl
  | cons r fr ih=>intro Y;rw [List.foldl_cons,ih];rfl
 have hall:∀t l sets,(X.all t l sets).1.cols=X.cols:=fun t l sets=>by
  unfold TxM.all
  by_cases h0:(cz (X.col t) sets l []).2=0
  ·rw [if_pos h0];exact put _ _ _
  ·rw [if_neg h0]
 have hone:∀t k sets,(X.one t k sets).1.cols=X.cols:=fun t k sets=>by
  unfold TxM.one
  cases aU (X.tab t) k with
  | none=>rfl
  | some r=>exact hall _ _ _
 have hdrop:∀t k,(X.drop t k).1.cols=X.cols:=fun t k=>by
  unfold TxM.drop
  cases aU (X.tab t) k with
  | none=>rfl
  | some r=>rfl
 unfold cu
 cases okS X.cols s
 ·rfl
 rw [if_neg (show ¬((!true)=true) by decide)]
 by_cases h4:s.kind=4
 ·rw [if_pos h4]
 rw [if_neg h4]
 by_cases h5:s.kind=5
 ·rw [if_pos h5]
  unfold TxM.back
  by_cases h0:X.saves.getD s.save.toNat 0=0
  ·rw [if_pos h0]
  ·rw [if_neg h0]
 rw [if_neg h5]
 by_cases h6:s.kind=6
 ·rw [if_pos h6]
 rw [if_neg h6]
 by_cases h7:s.kind=7
 ·rw [if_pos h7]
  cases (aU (X.tab s.table) (aG s.row)).isSome<;>rfl
 rw [if_neg h7]
 by_cases h8:s.kind=8
 ·rw [if_pos h8];exact hone _ _ _
 rw [if_neg h8]
 by_cases h9:s.kind=9
 ·rw [if_pos h9];exact hdrop _ _
 rw [if_neg h9]
 by_cases h10:s.kind=10
 ·rw [if_pos h10]
 rw [if_neg h10]
 by_cases h11:s.kind=11
 ·rw [if_pos h11];exact hall _ _ _
 rw [if_neg h11]
 by_cases h12:s.kind=12
 ·rw [if_pos h12];exact outs _ _ _
 rw [if_neg h12]
 by_cases h13:s.kind=13
 ·rw [if_pos h13];rfl
 rw [if_neg h13]
 by_cases h14:s.kind=14
 ·rw [if_pos h14]
  unfold TxM.fetch
  cases (X.cur s.cursor).opn
  ·rfl
  ·rw [if_neg (show ¬((!true)=true) by decide)]
   cases X.hold (X.cur s.cursor).table (X.cur s.cursor).p (X.cur s.cursor).frm<;>rfl
 rw [if_neg h14]
 by_cases h17:s.kind=17
 ·rw [if_pos h17]
  cases (X.cur s.cursor).opn<;>rfl
 rw [if_neg h17]
 unfold TxM.at_
 cases hb:(!(X.cur s.cursor).opn || !(X.cur s.cursor).stands || !(X.cur s.cursor).change)
 ·rw [if_neg (by decide)]
  by_cases h16:s.kind=16
  ·rw [if_pos h16];exact hdrop _ _
  ·rw [if_neg h16]
   cases dn (X.col (X.cur s.cursor).table) s.sets
   ·rfl
   ·exact hone _ _ _
 ·rfl
theorem TxI.steps : ∀(l:List StmM) {n c:Nat} {X:TxM},TxI n c X→(∀s∈l,bD s.row∧∀q∈s.sets,q.v.fit)→n+c+l.length≤150→∃n' c',n'+c'=n+c+l.length∧n≤n'∧TxI n' c' (bY X l).1∧(bY X l).1.cols=X.cols
 | [],n,c,X,h,_,_=>⟨n,c,rfl,Nat.le_refl _,h,rfl⟩
 | s::l,n,c,X,h,hf,hn=>by
  rw [List.length_cons]at hn
  obtain⟨n1,c1,e1,le1,h1⟩:=h.step (hf s (List.mem_cons_self ..)).1 (hf s (List.mem_cons_self ..)).2 (by omega)
  obtain⟨n2,c2,e2,le2,h2,h3⟩:=TxI.steps l h1 (fun q hq=>hf q (List.mem_cons_of_mem _ hq)) (by omega)
  exact⟨n2,c2,by rw [List.length_cons];omega,by omega,h2,h3.trans (lZ X s)⟩
structure OrI (n:Nat)(O:OrM):Prop where
 well:Well O.cols O.tabs
 few:TabsN n O.tabs
theorem OrI.start {n:Nat}{O:OrM}(h:OrI n O):TxI n 0 (bN O.cols O.tabs) :=
 ⟨.nil h.well h.few,Nat.zero_le _,(by intro v hv;simp [bN]at hv;omega),(by intro m hm hop;simp [bN,lD]at hm;rw [hm]at hop;cases hop),⟨rfl,rfl⟩⟩
theorem OrI.run {n:Nat}{O:OrM}(h:OrI n O)(l:List StmM)(hf:∀s∈l,bD s.row∧∀q∈s.sets,q.v.fit)(hn:n+l.length≤150):OrI (n+l.length) (O.run l).1:=by
 obtain⟨n',c',e,_,h1,h2⟩:=TxI.steps l h.start hf (by omega)
 obtain⟨a,b⟩:=h1.log.well
 rw [h2]at a
 exact⟨a,fun i m hm=>Nat.le_trans (b i m hm) (by omega)⟩
abbrev tAnss : TypeId:=47
theorem infoAns : (Tryz.prog.info? bq).map (fun i=>(i.zero,i.size,i.bytes))=some (some (.agg #[.int .i64 0,.slice none 0 0,.int .i64 0]),3,40):=by kernel_rfl
abbrev stZ : StmE:=⟨0,0,0,⟨false,0,⟨#[]⟩⟩,⟨none,0,0⟩,⟨none,0,0⟩,⟨0,0,⟨false,0,⟨#[]⟩⟩,⟨false,0,⟨#[]⟩⟩,none,0,0,[]⟩,0,0,false⟩
def TxAnsV (B:World)(D:PH)(x o:Nat)(l:List HP)(p:TxM×AnsM)(qe qn:Int)(e:Ending)(w':World):Prop:=∃(ra:Option Addr) (rn rc:Nat) (D':PH),e = .returned (.agg #[.int .i64 qe,.slice ra rn rc,.int .i64 qn])∧PH.le D D'∧RowsF D' (.slice ra rn rc) p.2.rows∧TxIn B w' D' x o p.1 l
def DoAns (B:World)(D:PH)(l:List HP)(o:Nat)(p:OrM×List AnsM)(e:Ending)(w':World):Prop:=∃(a:Option Addr) (cc:Nat) (D':PH),e = .returned (.slice a p.2.length cc)∧PH.le D D'∧AnsL D' (.slice a p.2.length cc) p.2∧Sat B D' w' (orP D' o p.1::l)
theorem pz {B w:World}{D:PH}{o n:Nat}{O:OrM}{l:List HP}{lev:Int}{sa:Option Addr}{N sc:Nat}{ss:List StmM}(hst:StmL D (.slice sa N sc) ss)(hnp:∀s∈ss,s.pred.nodes.length≤1000000)(hI:OrI n O)(hn:n+ss.length≤150)(h:Sat B D w (orP D o O::l)) :
  Calls Tryz.prog 17 #[.pointer (some ⟨o,0,none⟩),.agg #[.int .i64 lev,.slice sa N sc]] w (DoAns B D l o (O.run ss)):=by
 obtain⟨es,hes,hrd⟩:=hst
 have hel:=hes.len
 have hNl:N=es.length:=by obtain⟨_,_,ao,c,h2,_⟩:=hrd;cases h2;rfl
 subst hNl
 obtain⟨i0,hinf,hz0,hz1,hz2⟩:=info_parts infoAns
 have ud:=B5 (And.intro hinf (And.intro hz0 (And.intro hz1 hz2)))
 clear hinf hz0 hz1 hz2
 have h1:=h.alloc #[.int .i64 lev,.slice sa es.length sc] nx
 obtain⟨W2,hW2,h2⟩:∃W,W=(w.alloc (.cells #[.int .i64 lev,.slice sa es.length sc] nx)).alloc (.cells (aO o (.slice none 0 0) [0,0,0,0] [eT,eT,eT]) tTx)∧TxIn B W D (w.heap.size+1) o (bN O.cols O.tabs) (blk w.heap.size #[.int .i64 lev,.slice sa es.length sc] nx::l):=by
  have h3:=h1.alloc (aO o (.slice none 0 0) [0,0,0,0] [eT,eT,eT]) tTx
  rw [World.size_alloc]at h3
  refine⟨_,rfl,⟨.slice none 0 0,[],[eT,eT,eT]⟩,⟨.nil,.cons (iO D) (.cons (iO D) (.cons (iO D) .nil)),rfl,rfl,Nat.zero_le _⟩,?_⟩
  have h4:=h3.own_nil cY 5
  exact h4.perm ((List.Perm.swap _ _ _).trans ((((List.Perm.swap _ _ _).cons _).trans (List.Perm.refl _)).cons _))
 have xp:=B5 hW2
 have tL:=B5 h2
 have vR:=B5 hes
 have tM:=B5 hrd
 have Ae:=B5 hnp
 have yD:=B5 hI
 have HN:=B5 hn
 have wo:=B5 hel
 have xR:=B5 hI.start
 generalize hNN:es.length=N at *
 have vD:=B5 hNN
 clear h h1 hW2 h2 hes hrd hnp hI hn hel hNN
 go_enter Tryz.func17,Tryz.ntmps17
 go_upto_region 4 with fail
 have hz:Tryz.zeroCells97.setIfInBounds 0 (.pointer (some ⟨o,0,none⟩))=aO o (.slice none 0 0) [0,0,0,0] [eT,eT,eT]:=rfl
 rw [hz,←xp.out]
 clear hz xp
 generalize w.heap.size+1=bx at tL ⊢
 generalize w.heap.size=bt at tL ⊢
 have tH:=B5 (show TxIn B W2 D bx o (bN O.cols O.tabs) (aC bq 3 (.slice none 0 0) 0 []::blk bt #[.int .i64 lev,.slice sa N sc] nx::l)from by
  obtain⟨H,hH,hs⟩:=tL.out
  exact⟨H,hH,(hs.own_nil bq 3).perm (List.perm_middle (l₁:=txL D bx o (bN O.cols O.tabs) H) (a:=aC bq 3 (.slice none 0 0) 0 []) (l₂:=blk bt #[.int .i64 lev,.slice sa N sc] nx::l)).symm⟩)
 obtain⟨t0,t1,tf⟩:=bl (tL.out.sat.blk 0 rfl)
 clear tL
 go_wp2_with fail
 clear t0 t1 tf
 go_loopw [6,17] (fun ov idx wr=>∃(j:Nat) (oa:Option Addr) (oc:Nat) (D2:PH) (aes:List AnsE) (n' c':Nat),ov = .slice oa j oc∧idx = .int .i64 j∧j≤N∧PH.le D D2∧aes.length=j∧All2 (AnsOk D2) aes (bY (bN O.cols O.tabs) (ss.take j)).2∧TxI n' c' (bY (bN O.cols O.tabs) (ss.take j)).1∧n'+c'=n+j∧TxIn B wr D2 bx o (bY (bN O.cols O.tabs) (ss.take j)).1 (aC bq 3 (.slice oa j oc) j (aes.flatMap AnsE.cells)::blk bt #[.int .i64 lev,.slice sa N sc] nx::l)) (fun _ idx _=>N-(intOf idx).toNat)
 case atStart=>exact⟨0,none,0,D,[],n,0,rfl,rfl,Nat.zero_le _,PH.le.refl _,rfl,.nil,xR.out,rfl,tH.out⟩
 case round =>
  obtain⟨j,oa,oc,D2,aes,n1,c1,rfl,rfl,hj,hle,hal,hao,hti,hnc,htx⟩:=hrel
  have ub:=B5 hle
  have uz:=B5 hal
  have zH:=B5 hao
  have vB:=B5 hti
  have AP:=B5 hnc
  have uu:=B5 htx
  clear hle hal hao hti hnc htx tH
  by_cases hlt:j<N
  ·obtain⟨e,he⟩:∃e,es[j]?=some e:=⟨es[j]'(by rw [vD.out];exact hlt),List.getElem?_eq_getElem _⟩
   obtain⟨s,hs,hok⟩:=vR.out.get he
   have vb:=B5 (show ss.take (j+1)=ss.take j ++ [s] by rw [List.take_add_one,hs];rfl)
   have hmem:=List.mem_of_getElem? hs
   have uO:=B5 (hok.mono ub.out)
   have hfit:bD s.row∧∀q∈s.sets,q.v.fit:=⟨hok.row.2,hok.sets.2⟩
   have yE:=B5 (vB.out.step hfit.1 hfit.2 (by have:=AP.out;have:=HN.out;have:=wo.out;omega))
   have hji:(j:Int)<(N:Int):=by omega
   have hjN:j≤150:=by have:=HN.out;have:=wo.out;omega
   obtain⟨sg,so,rfl,hrg⟩:=bJ StmE.len ((tM.out.mono ub.out).rd uu.out.sat) he vD.out
   have wb:=B5 (fD hrg)
   have ux:=B5 (uu.out.alloc stZ.cells.toArray tSt)
   clear he hs hok hfit hrg
   go_upto_region 8 with (first|(refine bF rfl _ _ rfl _ _ rfl _ wb.out ?_)|(refine ay rfl _ _ _ rfl tSt wr.heap.size rfl e.cells rfl _ ux.out (by kernel_rfl) rfl e.one ?_;intro w5 htx5;have ut:=B5 htx5;clear htx5 ux wb uu))
   generalize wr.heap.size=b8 at ut ⊢
   have wb:=B5 (fD (aA (ut.out.sat.blk 0 rfl)))
   have uX:=B5 (qJ uO.out (Ae.out s hmem) vB.out (by have:=AP.out;have:=HN.out;have:=wo.out;omega) ut.out)
   have yV:=B5 (ir (bN O.cols O.tabs) s (ss.take j))
   rw [←vb.out]at yV
   obtain⟨Y,hY⟩:∃Y,(bY (bN O.cols O.tabs) (ss.take j)).1=Y:=⟨_,rfl⟩
   obtain⟨AS,hAS⟩:∃A,(bY (bN O.cols O.tabs) (ss.take j)).2=A:=⟨_,rfl⟩
   rw [hY]at uX yE yV ut
   rw [hAS]at zH yV
   clear vB hY hAS
   clear hmem
   obtain⟨n2,c2,hnc2,-,hti2⟩:=yE.out
   have xJ:=B5 hti2
   have AQ:=B5 hnc2
   clear hnc2 hti2 yE
   obtain⟨qe,qn,hqe,hqn⟩:∃qe qn,(cu Y s).2.e=qe∧(cu Y s).2.n=qn:=⟨_,_,rfl,rfl⟩
   have HQ:=B5 (And.intro hqe hqn)
   rw [show dV B D2 bx o _ (cu Y s)=TxAnsV B D2 bx o (blk b8 e.cells.toArray tSt::aC bq 3 (.slice oa j oc) j (aes.flatMap AnsE.cells)::blk bt #[.int .i64 lev,.slice (some ⟨sg,so,none⟩) N sc] nx::l) (cu Y s) qe qn by rw [←hqe,←hqn];rfl]at uX
   clear hqe hqn
   go_wp2_with (first|(refine bF rfl _ _ rfl _ _ rfl _ wb.out ?_)|(go_at_call 39;refine uX.out.mono ?_;rintro e7 w7 ⟨ra,rn,rc,D3,rfl,hle3,hrw3,htx7⟩;have ur:=B5 hle3;have uH:=B5 hrw3;have xI:=B5 htx7.drop;clear hle3 hrw3 htx7 uX ut wb)|(refine cD rfl _ _ rfl bq i0 _ (AnsE.cells ⟨qe,ra,rn,rc,qn⟩) rfl Tryz.underlying47 ud.out.1 ud.out.2.1 (ud.out.2.2.1.trans rfl) (by rw [AnsE.len];decide) (by rw [AnsE.len];decide) ?_;have Bn:=B5 ((xI.out.alloc (AnsE.cells ⟨qe,ra,rn,rc,qn⟩).toArray bq).perm (List.Perm.swap _ _ _));have xl:=B5 (bM (size:=3) (n:=1) (au w7 (.cells (AnsE.cells ⟨qe,ra,rn,rc,qn⟩).toArray bq)) rfl (by unfold maxLen;omega));clear xI)|(at_builtin;refine fz _ rfl _ _ tAnss rfl bq i0 _ 3 40 Tryz.underlying47 ud.out.1 ud.out.2.1 ud.out.2.2.1 ud.out.2.2.2 rfl _ j _ rfl Bn.out _ 1 _ rfl xl.out (by simpa using AnsE.one ⟨qe,ra,rn,rc,qn⟩) (by unfold maxLen;omega) (by omega) ?_;intro oa2 oc2 w9 htx9;have BU:=B5 (htx9.perm (List.Perm.swap _ _ _)).drop;clear htx9 Bn xl))
   go_roundw
   case rel =>
    refine⟨j+1,oa2,oc2,D3,aes ++ [⟨qe,ra,rn,rc,qn⟩],n2,c2,rfl,by go_num,by omega,ub.out.trans ur.out,by rw [List.length_append,uz.out];rfl,?_,?_,by have:=AQ.out;have:=AP.out;omega,?_⟩
    ·rw [yV.out]
     exact(zH.out.imp (fun _ _ h=>h.mono ur.out)).snoc ⟨HQ.out.1.symm,uH.out,HQ.out.2.symm⟩
    ·rw [yV.out];exact xJ.out
    ·rw [yV.out]
     have:=BU.out
     rw [List.flatMap_append,List.flatMap_singleton]
     exact this
   case measure=>simp [intOf];omega
  ·obtain rfl:j=N:=by omega
   have hji:¬((j:Int)<(j:Int)):=by omega
   have hall:ss.take j=ss:=List.take_of_length_le (by have:=wo.out;omega)
   rw [hall]at zH uu vB
   obtain⟨D3,hle3,hrd3,htx3⟩:=kO uu.out
   have HF:=B5 (show ∃D',PH.le D D'∧AnsL D' (.slice oa j oc) (O.run ss).2∧Sat B D' _ (orP D' o (O.run ss).1::l)from by
    obtain⟨H,hH,hs⟩:=htx3
    refine⟨D3,ub.out.trans hle3,⟨aes,zH.out.imp (fun _ _ h=>h.mono hle3),by rw [uz.out];exact hrd3⟩,?_⟩
    have h1:=(gY hs).perm (List.Perm.refl _)
    have h2:Sat B D3 _ (orP D3 o ⟨(bY (bN O.cols O.tabs) ss).1.cols,(bY (bN O.cols O.tabs) ss).1.tabs⟩::l):=(((h1.swap.drop).swap.drop).swap.drop)
    have h3:(bY (bN O.cols O.tabs) ss).1.cols=O.cols:=by
     have:∀(l:List StmM) (X:TxM),(bY X l).1.cols=X.cols:=fun l=>by
      induction l with
      | nil=>intro X;rfl
      | cons s l ih=>intro X;exact(ih _).trans (lZ X s)
     exact this ss _
    rw [h3]at h2
    exact h2)
   clear hrd3 htx3 hle3 uu zH vB
   have hss:ss.length=j:=wo.out.symm
   go_wp2_with fail
   refine bodyPost_ret (results_tmp rfl _ _ _) rfl ?_
   obtain⟨D',f1,f2,f3⟩:=HF.out
   have hl2:(O.run ss).2.length=j:=(jg _ ss).trans hss
   exact⟨oa,oc,D',by rw [hl2];rfl,f1,by rw [hl2];exact f2,f3⟩
end Go.Proofs.YtdobimafhbfkhaaGreat
