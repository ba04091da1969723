/- What a statement of a kind does (txn.doing), and what follows. -/
import Derived.Test.YtdobimafhbfkhaaGreatOY34
set_option maxHeartbeats 64000000
namespace Go.Proofs.YtdobimafhbfkhaaGreat
open Go.ChangeShapes Go.WideShapes Go.ChangeAt Go.RowKit
set_option maxRecDepth 100000
set_option linter.unusedSimpArgs false
def doF (k:Int):Nat :=
 if k=4 then 68 else if k=5 then 69 else if k=6 then 70 else if k=7 then 71 else
 if k=8 then 72 else if k=9 then 73 else if k=10 then 74 else if k=11 then 75 else
 if k=12 then 76 else if k=13 then 77 else if k=14 then 78 else if k=17 then 79 else 80
theorem uH {w:World}{x:Nat}{k:Int}(hk:4≤k∧k≤17) :
  Calls Tryz.prog 50 #[.pointer (some ⟨x,0,none⟩),.int .i64 k] w fun e w'=>e = .returned (.func (.func (doF k)) #[.pointer (some ⟨x,0,none⟩)] #[])∧w'=w:=by
 have h:k=4∨k=5∨k=6∨k=7∨k=8∨k=9∨k=10∨k=11∨k=12∨k=13∨k=14∨k=15∨k=16∨k=17:=by omega
 clear hk;rcases h with rfl|rfl|rfl|rfl|rfl|rfl|rfl|rfl|rfl|rfl|rfl|rfl|rfl|rfl<;>(go_enter Tryz.func50,Tryz.ntmps50;go_wp2_with fail;go_ret;exact⟨rfl,rfl⟩)
end Go.Proofs.YtdobimafhbfkhaaGreat
namespace Go.Proofs.YtdobimafhbfkhaaGreat
set_option linter.unusedSimpArgs false
def TabsN (n:Nat)(T:List aq):Prop:=∀(i:Nat) (m:aq),T[i]?=some m→m.length≤n
inductive LogN (n:Nat)(cols:List (List Bool)):List aq→List BefM→Prop where
 | nil {T:List aq} (h:Well cols T) (hn:TabsN n T):LogN n cols T []
 | cons {T:List aq} {b:BefM} {l:List BefM} (h:Well cols T) (hn:TabsN n T) (hb:BefI cols b) (t:LogN n cols (eU T b) l):LogN n cols T (b::l)
section
variable {n n' : Nat} {cols : List (List Bool)} {T : List aq} {l : List BefM}
theorem LogN.log (h:LogN n cols T l):LogI cols T l:=by
 induction h with
 | nil h _=>exact .nil h
 | cons h _ hb _ ih=>exact .cons h hb ih
theorem LogN.mono (hn:n≤n')(h:LogN n cols T l):LogN n' cols T l:=by
 induction h with
 | nil h h2=>exact .nil h (fun i m hm=>Gq (h2 i m hm) hn)
 | cons h h2 hb _ ih=>exact .cons h (fun i m hm=>Gq (h2 i m hm) hn) hb ih
theorem LogN.well (h:LogN n cols T l):Well cols T∧TabsN n T:=by cases h with
 | nil a b=>exact⟨a,b⟩
 | cons a b _ _=>exact⟨a,b⟩
theorem LogN.at {T:List aq}{log:List BefM}(h:LogN n cols T log.reverse):∀(d j:Nat),d+j=log.length→LogN n cols (bl T (log.drop j)) (log.take j).reverse
 | 0,j,hj=>by
  rw [Gk (by omega),FS (by omega)];exact h
 | d+1,j,hj=>by
  have ih:=h.at d (j+1) (by omega);have hlt:j<log.length:=by omega
  have e:log.drop j=log[j]::log.drop (j+1):=List.drop_eq_getElem_cons hlt;rw [e,gY];rw [F3,FP hlt,Option.toList_some,List.reverse_append]at ih;cases ih with
  | cons _ _ _ t=>exact t
theorem Well.set {i:Nat}{c:List Bool}{m:aq}(h:Well cols T)(hc:cols[i]?=some c)(hm:TabI c m)(hl:m.length≤200):Well cols (T.set i m):=by
 refine⟨by rw [FV];exact h.1,fun j c' m' hc' hm'=>?_⟩;by_cases hj:i=j
 ·subst hj
  have hlt:i<T.length:=by have:=(FO.1 hm').1;rwa [FV]at this
  rw [FX hlt]at hm';cases hm';rw [hc]at hc';cases hc';exact⟨hm,hl⟩
 ·rw [F8 hj]at hm'
  exact h.2 j c' m' hc' hm'
theorem TabsN.set {i:Nat}{m:aq}(h:TabsN n T)(hl:m.length≤n):TabsN n (T.set i m):=fun j m' hm'=>by
 by_cases hj:i=j
 ·subst hj
  have hlt:i<T.length:=by have:=(FO.1 hm').1;rwa [FV]at this
  rw [FX hlt]at hm';cases hm';exact hl
 ·rw [F8 hj]at hm'
  exact h j m' hm'
end
structure TxI (n c:Nat)(X:TxM):Prop where
 log:LogN n X.cols X.tabs X.log.reverse
 len:X.log.length≤n*(c+1)
 saves:∀v∈X.saves,0≤v
 curs:∀m∈X.curs,m.opn=true→(∃i:Nat,m.table=(i:Int)∧i<X.cols.length)∧(m.stands=true→am m.key=true)
 two:X.saves.length=4∧X.curs.length=3
section
variable {n c : Nat} {X : TxM}
theorem TxI.tab (h:TxI n c X){i:Nat}(hi:i<X.cols.length):∃cc m,X.cols[i]?=some cc∧X.tabs[i]?=some m∧TabI cc m∧m.length≤200∧m.length≤n∧TabAt X i cc m:=by
 obtain⟨hw,hn⟩:=h.log.well;have h2:i<X.tabs.length:=by rw [hw.1];exact hi
 have a:=FP hi;have b:=FP h2;obtain⟨t1,t2⟩:=hw.2 i _ _ a b;exact⟨_,_,a,b,t1,t2,hn i _ b,b,a,t1,t2⟩
theorem LogN.put (h:LogN n X.cols X.tabs X.log.reverse){i:Nat}{cc:List Bool}{m:aq}{r:List Val}(hc:X.cols[i]?=some cc)(hm:X.tabs[i]?=some m)(hr:aX cc r=true)(hf:bG r){n':Nat}(hn:n≤n')(hl:(cw m r).length≤n')(hl2:(cw m r).length≤200) :
  LogN n' (X.put i r).cols (X.put i r).tabs (X.put i r).log.reverse:=by
 have hw:=h.well.1;have hT:=(hw.2 i cc m hc hm).1;have hk:am (au r)=true:=by obtain⟨k,_,e,hk,_⟩:=cO hr;rw [e];exact hk
 have e1:X.tab (i:Int)=m:=cE hm
 show LogN n' X.cols (X.tabs.set (i:Int).toNat (cw (X.tab i) r)) (X.log ++ [(⟨(i:Int),au r,(aP (X.tab i) (au r)).getD []⟩:BefM)]).reverse;rw [e1,F6,List.reverse_append,List.reverse_singleton,List.singleton_append];refine .cons (hw.set hc (hT.put hr hf) hl2) (TabsN.set (T:=X.tabs) (fun j m' hj=>Gq (h.well.2 j m' hj) hn) hl) ⟨i,cc,rfl,hc,hk,?_⟩ ?_
 ·cases hq:aP m (au r)with
  | none=>left;rfl
  | some q =>
   obtain⟨q1,q2⟩:=cV hq
   right
   exact⟨hT.fits q q1,hT.fit q q1,q2⟩
 ·rw [mL hm hT hr]
  exact h.mono hn
theorem qB {cc:List Bool}{m:aq}(h:TabI cc m){k:Val}(hk:am k=true)(hf:aP m k=none):cR m k=m:=by
 unfold cR;refine List.filter_eq_self.2 fun q hq=>?_;have hne:¬ai (au q) k=0:=fun h0=>by
  have e:=jm (h.keys q hq) hk h0;have h1:=eD.2 ⟨q,hq,e⟩;rw [hf]at h1;cases h1
 simpa using hne
theorem mX {T:List aq}{i:Nat}{cc:List Bool}{m:aq}{k:Val}(hm:T[i]?=some m)(hI:TabI cc m)(hk:am k=true):eU (T.set i (cR m k)) ⟨(i:Int),k,(aP m k).getD []⟩=T:=by
 cases hf:aP m k with
 | some q=>have:=vF hm hI (k:=k) (by rw [hf];rfl);rw [hf]at this;exact this
 | none =>
  refine oJ hm ?_
  show cR (cR m k) k=m;rw [qB hI hk hf,qB hI hk hf]
theorem LogN.out (h:LogN n X.cols X.tabs X.log.reverse){i:Nat}{cc:List Bool}{m:aq}{k:Val}(hc:X.cols[i]?=some cc)(hm:X.tabs[i]?=some m)(hk:am k=true) :
  LogN n (X.out i k).cols (X.out i k).tabs (X.out i k).log.reverse:=by
 have hw:=h.well.1;obtain⟨hT,hT2⟩:=hw.2 i cc m hc hm;have e1:X.tab (i:Int)=m:=cE hm
 show LogN n X.cols (X.tabs.set (i:Int).toNat (cR (X.tab i) k)) (X.log ++ [(⟨(i:Int),k,(aP (X.tab i) k).getD []⟩:BefM)]).reverse;rw [e1,F6,List.reverse_append,List.reverse_singleton,List.singleton_append];refine .cons (hw.set hc (hT.del k) (Gq (List.length_filter_le ..) hT2)) (h.well.2.set (Gq (List.length_filter_le ..) (h.well.2 i m hm))) ⟨i,cc,rfl,hc,hk,?_⟩ ?_
 ·cases hq:aP m k with
  | none=>left;rfl
  | some q =>
   obtain⟨q1,q2⟩:=cV hq
   right
   exact⟨hT.fits q q1,hT.fit q q1,q2⟩
 ·rw [mX hm hT hk]
  exact h
structure SameT (X Y:TxM)(k:Nat):Prop where
 cols:Y.cols=X.cols
 saves:Y.saves=X.saves
 curs:Y.curs=X.curs
 len:Y.log.length=X.log.length+k
theorem qs {i:Nat}{cc:List Bool}:∀(fr:aq) (Y:TxM) (m:aq),LogN n Y.cols Y.tabs Y.log.reverse→Y.cols[i]?=some cc→Y.tabs[i]?=some m→(∀q∈fr,aX cc q=true∧bG q∧(aP m (au q)).isSome=true)→LogN n (fr.foldl (fun y r=>y.put (i:Int) r) Y).cols (fr.foldl (fun y r=>y.put (i:Int) r) Y).tabs (fr.foldl (fun y r=>y.put (i:Int) r) Y).log.reverse∧SameT Y (fr.foldl (fun y r=>y.put (i:Int) r) Y) fr.length
 | [],Y,m,h,_,_,_=>⟨h,rfl,rfl,rfl,rfl⟩
 | r::fr,Y,m,h,hc,hm,hf=>by
  obtain⟨f1,f2,f3⟩:=hf r (Gc ..);have hw:=h.well.1.2 i cc m hc hm;have hsame:=kF hw.1 f1 f3;have h1:=h.put hc hm f1 f2 (Gn n) (by rw [hsame];exact h.well.2 i m hm) (by rw [hsame];exact hw.2);have hlt:=(FO.1 hm).1;have e1:Y.tab (i:Int)=m:=cE hm;have hm2:(Y.put (i:Int) r).tabs[i]?=some (cw m r):=by
   show(Y.tabs.set (i:Int).toNat (cw (Y.tab i) r))[i]?=_;rw [F6,FX hlt,e1]
  obtain⟨g1,g2⟩:=qs fr (Y.put (i:Int) r) (cw m r) h1 hc hm2 (fun q hq=>⟨(hf q (F4 _ hq)).1,(hf q (F4 _ hq)).2.1,by rw [qi hw.1 f1 f3];exact(hf q (F4 _ hq)).2.2⟩);refine⟨g1,g2.cols,g2.saves,g2.curs,?_⟩;rw [List.foldl_cons,g2.len]
  show(Y.log ++ [_]).length+fr.length=_;simp only [FR,List.length_cons,List.length_nil];omega
theorem qx {i:Nat}{cc:List Bool}:∀(ks:aq) (Y:TxM) (m:aq),LogN n Y.cols Y.tabs Y.log.reverse→Y.cols[i]?=some cc→Y.tabs[i]?=some m→(∀q∈ks,am (au q)=true)→LogN n (ks.foldl (fun y r=>y.out (i:Int) (au r)) Y).cols (ks.foldl (fun y r=>y.out (i:Int) (au r)) Y).tabs (ks.foldl (fun y r=>y.out (i:Int) (au r)) Y).log.reverse∧SameT Y (ks.foldl (fun y r=>y.out (i:Int) (au r)) Y) ks.length
 | [],Y,m,h,_,_,_=>⟨h,rfl,rfl,rfl,rfl⟩
 | r::ks,Y,m,h,hc,hm,hf=>by
  have h1:=h.out hc hm (hf r (Gc ..));have hlt:=(FO.1 hm).1;have e1:Y.tab (i:Int)=m:=cE hm;have hm2:(Y.out (i:Int) (au r)).tabs[i]?=some (cR m (au r)):=by
   show(Y.tabs.set (i:Int).toNat (cR (Y.tab i) (au r)))[i]?=_;rw [F6,FX hlt,e1]
  obtain⟨g1,g2⟩:=qx ks (Y.out (i:Int) (au r)) (cR m (au r)) h1 hc hm2 (fun q hq=>hf q (F4 _ hq));refine⟨g1,g2.cols,g2.saves,g2.curs,?_⟩;rw [List.foldl_cons,g2.len]
  show(Y.log ++ [_]).length+ks.length=_;simp only [FR,List.length_cons,List.length_nil];omega
theorem jr {cc:List Bool}{sets:List SetM}:∀ {l out fr:aq},cB cc sets l out=(fr,0)→fr.length=out.length+l.length
 | [],out,fr,h=>by
  have h':(out,(0:Int))=(fr,0):=h;rw [←(Prod.mk.inj h').1];rfl
 | q::l,out,fr,h=>by
  have h':(if (cM cc q sets).2=0 then cB cc sets l (out ++ [(cM cc q sets).1])else ([],(cM cc q sets).2))=(fr,0):=h;split at h'
  ·rw [jr h',FR,Gh,List.length_cons];omega
  ·next h0=>exact absurd (Prod.mk.inj h').2 h0
theorem ir {cc:List Bool}{m:aq}{sets:List SetM}(hs:∀s∈sets,s.v.fit):∀ {l out fr:aq},(∀q∈l,aX cc q=true∧bG q∧(aP m (au q)).isSome=true)→(∀q∈out,aX cc q=true∧bG q∧(aP m (au q)).isSome=true)→cB cc sets l out=(fr,0)→∀q∈fr,aX cc q=true∧bG q∧(aP m (au q)).isSome=true
 | [],out,fr,_,ho,h=>by
  have h':(out,(0:Int))=(fr,0):=h;rw [←(Prod.mk.inj h').1];exact ho
 | q::l,out,fr,hl,ho,h=>by
  have h':(if (cM cc q sets).2=0 then cB cc sets l (out ++ [(cM cc q sets).1])else ([],(cM cc q sets).2))=(fr,0):=h;split at h'
  ·next h0 =>
   refine ir hs (fun p hp=>hl p (F4 _ hp)) (fun p hp=>?_) h';rcases F2.1 hp with hp|hp
   ·exact ho p hp
   ·obtain rfl:=List.mem_singleton.1 hp
    obtain⟨a,b,c⟩:=hl q (Gc ..);obtain⟨u1,u2,u3⟩:=kw a b hs h0;exact⟨u1,u2,by rw [u3];exact c⟩
  ·next h0=>exact absurd (Prod.mk.inj h').2 h0
theorem TxI.all (h:TxI n c X){i:Nat}(hi:i<X.cols.length){l:aq}{sets:List SetM}(hs:∀s∈sets,s.v.fit)(hl:∀m,X.tabs[i]?=some m→∀q∈l,q∈m)(hn:l.length≤n):TxI n (c+1) (X.all (i:Int) l sets).1:=by
 obtain⟨cc,m,hc,hm,hT,h200,hmn,_⟩:=h.tab hi;have up:n*(c+1)≤n*(c+1+1):=Nat.mul_le_mul_left _ (by omega);unfold TxM.all;rw [fF hc];split
 ·next h0 =>
  obtain⟨fr,hfr⟩:∃fr,cB cc sets l []=(fr,0):=⟨(cB cc sets l []).1,by rw [←h0]⟩;have hlen:=jr hfr;have hfit:=ir (m:=m) hs (fun q hq=>⟨hT.fits q (hl m hm q hq),hT.fit q (hl m hm q hq),eD.2 ⟨q,hl m hm q hq,rfl⟩⟩) (fun q hq=>by cases hq) hfr;rw [hfr];obtain⟨g1,g2⟩:=qs fr X m h.log hc hm hfit;refine⟨g1,?_,by rw [g2.saves];exact h.saves,by rw [g2.curs,g2.cols];exact h.curs,by rw [g2.saves,g2.curs];exact h.two⟩;rw [g2.len,hlen,Nat.mul_succ n (c+1)];have:=h.len;simp only [List.length_nil];omega
 ·exact⟨h.log,Gq h.len up,h.saves,h.curs,h.two⟩
theorem TxI.more (h:TxI n c X):TxI n (c+1) X:=⟨h.log,Gq h.len (Nat.mul_le_mul_left _ (by omega)),h.saves,h.curs,h.two⟩
theorem TxI.one (h:TxI n c X){i:Nat}(hi:i<X.cols.length){k:Val}{sets:List SetM}(hs:∀s∈sets,s.v.fit):TxI n (c+1) (X.one (i:Int) k sets).1:=by
 obtain⟨cc,m,hc,hm,hT,h200,hmn,_⟩:=h.tab hi;unfold TxM.one;rw [cE hm];cases hf:aP m k with
 | none=>exact h.more
 | some r =>
  refine h.all hi hs (fun m' hm' q hq=>?_) ?_
  ·rw [hm]at hm'
   cases hm';obtain rfl:=List.mem_singleton.1 hq;exact(cV hf).1
  ·have:=List.length_pos_of_mem (cV hf).1
   rw [Gh];omega
theorem TxI.drop (h:TxI n c X){i:Nat}(hi:i<X.cols.length){k:Val}(hk:am k=true):TxI n (c+1) (X.drop (i:Int) k).1:=by
 obtain⟨cc,m,hc,hm,hT,h200,hmn,_⟩:=h.tab hi;unfold TxM.drop;rw [cE hm];cases hf:aP m k with
 | none=>exact h.more
 | some r =>
  refine⟨h.log.out hc hm hk,?_,h.saves,h.curs,h.two⟩
  show(X.log ++ [_]).length≤_;rw [FR,Gh,Nat.mul_succ n (c+1)];have:=List.length_pos_of_mem (cV hf).1;have:=h.len;omega
end
section
variable {n c : Nat} {X : TxM} {s : StmM}
theorem dM (h:okS X.cols s=true)(hk:s.kind=6∨s.kind=7∨s.kind=8∨s.kind=9∨s.kind=10∨s.kind=11∨s.kind=12∨s.kind=13):∃(i:Nat) (cc:List Bool),s.table=(i:Int)∧X.cols[i]?=some cc∧cj cc=true ∧
  okS X.cols s=okK s.kind (am s.key&&decide (s.key.t=cc.getD 0 false)) (bY cc s.pred) (cG cc s.sets) (bL s) (aU s) (aX cc s.row) (decide (s.pred.nodes.length≤13)):=by
 cases his:(decide (0≤s.table)&&decide (s.table<(X.cols.length:Int))&&cj (X.cols.getD s.table.toNat []))with
 | false =>
  rw [oz his]at h;rcases hk with hk|hk|hk|hk|hk|hk|hk|hk<;>rw [hk]at h<;>exact absurd h (by simp [okK])
 | true =>
  simp only [Bool.and_eq_true,decide_eq_true_eq]at his;obtain⟨⟨h1,h2⟩,h3⟩:=his;have hlt:s.table.toNat<X.cols.length:=by omega
  have hc:=FP hlt;rw [FW,hc]at h3;refine⟨s.table.toNat,X.cols[s.table.toNat],by omega,hc,h3,oV (by omega) hc h3⟩
theorem iY (h:okS X.cols s=true):4≤s.kind∧s.kind≤17:=by
 refine Classical.byContradiction fun hn=>?_;have h4:s.kind≠4:=by omega
 have h5:s.kind≠5:=by omega
 have h6:s.kind≠6:=by omega
 have h7:s.kind≠7:=by omega
 have h8:s.kind≠8:=by omega
 have h9:s.kind≠9:=by omega
 have h10:s.kind≠10:=by omega
 have h11:s.kind≠11:=by omega
 have h12:s.kind≠12:=by omega
 have h13:s.kind≠13:=by omega
 have h14:¬(14≤s.kind∧s.kind≤17):=by omega
 unfold okS at h;simp only [h4,h5,h6,h7,h8,h9,h10,h11,h12,h13,h14,or_self,if_false]at h;exact absurd h (by simp)
theorem jO (h:okS X.cols s=true)(hk:13≤s.kind):∃k:Nat,s.cursor=(k:Int)∧k<3:=by
 have hr:=iY h;have hc:bL s=true:=by
  unfold okS at h;by_cases h13:s.kind=13
  ·simp only [h13]at h
   simp at h;unfold bL;simp;exact h.1.2
  ·have h4:s.kind≠4:=by omega
   have h5:s.kind≠5:=by omega
   have h6:s.kind≠6:=by omega
   have h7:s.kind≠7:=by omega
   have h8:s.kind≠8:=by omega
   have h9:s.kind≠9:=by omega
   have h10:s.kind≠10:=by omega
   have h11:s.kind≠11:=by omega
   have h12:s.kind≠12:=by omega
   have h14:14≤s.kind∧s.kind≤17:=by omega
   simp only [h4,h5,h6,h7,h8,h9,h10,h11,h12,h13,h14,or_self,if_false,and_self,if_true]at h;exact h
 unfold bL at hc;simp only [Bool.and_eq_true,decide_eq_true_eq]at hc;exact⟨s.cursor.toNat,by omega,by omega⟩
theorem gK (h:okS X.cols s=true)(hk:s.kind=4∨s.kind=5):∃k:Nat,s.save=(k:Int)∧k<4:=by
 unfold okS at h;simp only [hk,if_true,Bool.and_eq_true,decide_eq_true_eq]at h;exact⟨s.save.toNat,by omega,by omega⟩
theorem TxI.setCur (h:TxI n c X)(k:Int)(m:CurM)(hm:m.opn=true→(∃i:Nat,m.table=(i:Int)∧i<X.cols.length)∧(m.stands=true→am m.key=true)):TxI n (c+1) (X.setCur k m):=by
 refine⟨h.more.log,h.more.len,h.saves,fun q hq=>?_,⟨h.two.1,by show(X.curs.set k.toNat m).length=3;rw [FV];exact h.two.2⟩⟩;rcases List.mem_or_eq_of_mem_set hq with hq|rfl
 ·exact h.curs q hq
 ·exact hm
theorem TxI.cur (h:TxI n c X){k:Nat}(hk:k<3):∃m,X.curs[k]?=some m∧X.cur (k:Int)=m∧(m.opn=true→(∃i:Nat,m.table=(i:Int)∧i<X.cols.length)∧(m.stands=true→am m.key=true)):=by
 have hlt:k<X.curs.length:=by rw [h.two.2];exact hk
 have e:=FP hlt;exact⟨_,e,py e,h.curs _ (List.getElem_mem hlt)⟩
theorem TxI.back (h:TxI n c X){k:Nat}(hk:k<4):TxI n (c+1) (X.back (k:Int)).1:=by
 obtain⟨v,hv⟩:∃v,X.saves[k]?=some v:=⟨X.saves[k]'(by rw [h.two.1];exact hk),FP _⟩;have h0:=h.saves v (FQ hv);rcases Int.lt_or_eq_of_le h0 with hp|rfl
 ·obtain⟨A,rfl⟩:∃A:Nat,v=(A:Int)+1:=⟨(v-1).toNat,by omega⟩
  rw [ox hv];have hm:=h.more;have hj:∃j,j≤X.log.length∧X.yb A=X.yb j:=by
   by_cases hA:A≤X.log.length
   ·exact⟨A,hA,rfl⟩
   ·exact⟨X.log.length,Gn _,vi X (Gn _) (.inr rfl) (by omega)⟩
  obtain⟨j,hj1,hj2⟩:=hj;rw [hj2];refine⟨(h.log.at (X.log.length-j) j (by omega)),?_,?_,h.curs,⟨?_,h.two.2⟩⟩
  ·show(X.log.take j).length≤_
   have:=hm.len;rw [F0];omega
  ·intro q hq
   obtain⟨p,hp,rfl⟩:=List.mem_map.1 hq;have:=h.saves p hp;split<;>omega
  ·show(X.saves.map _).length=4
   rw [FZ];exact h.two.1
 ·rw [nt hv];exact h.more
theorem TxI.fetch (h:TxI n c X){k:Nat}(hk:k<3):TxI n (c+1) (X.fetch (k:Int)).1:=by
 obtain⟨m,hm,hcm,hcur⟩:=h.cur hk;cases hop:m.opn with
 | false =>
  have e:X.fetch (k:Int)=(X,bJ 161):=by unfold TxM.fetch;rw [hcm,hop];rfl
  rw [e];exact h.more
 | true =>
  obtain⟨⟨i,hti,hi⟩,hst⟩:=hcur hop;obtain⟨cc,mt,hc,hmt,hT,h200,hmn,_⟩:=h.tab hi;cases hr:cz mt m.p m.frm with
  | nil =>
   rw [j7 hcm hop hti hmt hr];exact h.setCur _ _ (fun _=>⟨⟨i,hti,hi⟩,fun h2=>by cases h2⟩)
  | cons r rs =>
   rw [jn hcm hop hti hmt hr];refine h.setCur _ _ (fun _=>⟨⟨i,hti,hi⟩,fun _=>?_⟩);exact hT.keys r (dH (by rw [hr];exact Gc ..))
theorem TxI.at_ (h:TxI n c X){k:Nat}(hi:s.cursor=(k:Int))(hk:k<3)(hs:∀q∈s.sets,q.v.fit):TxI n (c+1) (X.at_ s).1:=by
 obtain⟨m,hm,hcm,hcur⟩:=h.cur hk;unfold TxM.at_;rw [hi,hcm];split
 ·exact h.more
 ·next hno =>
  have hop:m.opn=true:=by cases h1:m.opn<;>simp [h1]at hno ⊢
  have hst:m.stands=true:=by cases h1:m.stands<;>simp [h1]at hno ⊢
  obtain⟨⟨i,hti,hil⟩,hkey⟩:=hcur hop;rw [hti];split
  ·exact h.drop hil (hkey hst)
  ·split
   ·exact h.more
   ·exact h.one hil hs
theorem TxI.step (h:TxI n c X)(hf:bG s.row)(hs:∀q∈s.sets,q.v.fit)(hn:n+1≤200):∃n' c',n'+c'=n+c+1∧n≤n'∧TxI n' c' (cN X s).1:=by
 have keep:∀Y,TxI n (c+1) Y→∃n' c',n'+c'=n+c+1∧n≤n'∧TxI n' c' Y:=fun Y hY=>⟨n,c+1,by omega,Gn _,hY⟩;unfold cN;cases hok:okS X.cols s with
 | false=>exact keep _ h.more
 | true =>
  have hr:=iY hok;rw [if_neg (show ¬((!true)=true) by decide)];by_cases hk:s.kind=4
  ·rw [if_pos hk]
   refine keep _ ⟨h.more.log,h.more.len,fun q hq=>?_,h.curs,⟨by show(X.saves.set _ _).length=4;rw [FV];exact h.two.1,h.two.2⟩⟩;rcases List.mem_or_eq_of_mem_set hq with hq|rfl
   ·exact h.saves q hq
   ·omega
  rw [if_neg hk];have hn4:=hk;clear hk;by_cases hk:s.kind=5
  ·rw [if_pos hk]
   obtain⟨k,hk1,hk2⟩:=gK hok (.inr hk);rw [hk1];exact keep _ (h.back hk2)
  rw [if_neg hk];have hn5:=hk;clear hk;by_cases hk:s.kind=6
  ·rw [if_pos hk];exact keep _ h.more
  rw [if_neg hk];have hn6:=hk;clear hk;by_cases hk:s.kind=7
  ·rw [if_pos hk]
   obtain⟨i,cc,hti,hc,hm,he⟩:=dM hok (.inr (.inl hk));have hi:=(FO.1 hc).1;obtain⟨cc',m,hc',hmt,hT,h200,hmn,_⟩:=h.tab hi;rw [hc]at hc';cases hc';have hfit:aX cc s.row=true:=by rw [hok]at he;rw [hk]at he;simpa [okK]using he
   split
   ·exact keep _ h.more
   ·next hno =>
    rw [hti]at hno ⊢;rw [cE hmt]at hno;have hlen:(cw m s.row).length=m.length+1:=by
     rw [mJ hT hfit];rw [if_neg hno]
    refine⟨n+1,c,by omega,by omega,h.log.put hc hmt hfit hf (by omega) (by omega) (by omega),?_,h.saves,h.curs,h.two⟩
    show(X.log ++ [_]).length≤_;rw [FR,Gh,Nat.succ_mul];have:=h.len;omega
  rw [if_neg hk];have hn7:=hk;clear hk;by_cases hk:s.kind=8
  ·rw [if_pos hk]
   obtain⟨i,cc,hti,hc,hm,he⟩:=dM hok (.inr (.inr (.inl hk)));rw [hti];exact keep _ (h.one (FO.1 hc).1 hs)
  rw [if_neg hk];have hn8:=hk;clear hk;by_cases hk:s.kind=9
  ·rw [if_pos hk]
   obtain⟨i,cc,hti,hc,hm,he⟩:=dM hok (.inr (.inr (.inr (.inl hk))));rw [hti];have hkr:am s.key=true:=by rw [hok]at he;rw [hk]at he;simp [okK]at he;exact he.1
   exact keep _ (h.drop (FO.1 hc).1 hkr)
  rw [if_neg hk];have hn9:=hk;clear hk;by_cases hk:s.kind=10
  ·rw [if_pos hk];exact keep _ h.more
  rw [if_neg hk];have hn10:=hk;clear hk;by_cases hk:s.kind=11
  ·rw [if_pos hk]
   obtain⟨i,cc,hti,hc,hm,he⟩:=dM hok (.inr (.inr (.inr (.inr (.inr (.inl hk))))));have hi:=(FO.1 hc).1;obtain⟨cc',m,hc',hmt,hT,h200,hmn,_⟩:=h.tab hi;rw [hti,dp hmt];exact keep _ (h.all hi hs (fun m' hm' q hq=>by rw [hmt]at hm';cases hm';exact dH hq) (gz hmn))
  rw [if_neg hk];have hn11:=hk;clear hk;by_cases hk:s.kind=12
  ·rw [if_pos hk]
   obtain⟨i,cc,hti,hc,hm,he⟩:=dM hok (.inr (.inr (.inr (.inr (.inr (.inr (.inl hk)))))));have hi:=(FO.1 hc).1;obtain⟨cc',m,hc',hmt,hT,h200,hmn,_⟩:=h.tab hi;rw [hti,dp hmt];obtain⟨g1,g2⟩:=qx (cz m s.pred bj) X m h.log hc' hmt (fun q hq=>hT.keys q (dH hq));refine keep _ ⟨g1,?_,by rw [g2.saves];exact h.saves,by rw [g2.curs,g2.cols];exact h.curs,by rw [g2.saves,g2.curs];exact h.two⟩;have h1:=gz (p:=s.pred) (s:=bj) hmn;rw [g2.len,Nat.mul_succ n (c+1)];have:=h.len;omega
  rw [if_neg hk];have hn12:=hk;clear hk;by_cases hk:s.kind=13
  ·rw [if_pos hk]
   obtain⟨i,cc,hti,hc,hm,he⟩:=dM hok (.inr (.inr (.inr (.inr (.inr (.inr (.inr hk)))))));exact keep _ (h.setCur _ _ (fun _=>⟨⟨i,hti,(FO.1 hc).1⟩,fun h2=>by cases h2⟩))
  rw [if_neg hk];have hn13:=hk;clear hk;have h14:13≤s.kind:=by omega
  obtain⟨k,hk1,hk2⟩:=jO hok h14;by_cases hk:s.kind=14
  ·rw [if_pos hk,hk1];exact keep _ (h.fetch hk2)
  rw [if_neg hk];have hn14:=hk;clear hk;by_cases hk:s.kind=17
  ·rw [if_pos hk]
   cases (X.cur s.cursor).opn
   ·exact keep _ h.more
   ·exact keep _ (h.setCur _ _ (fun h2=>by cases h2))
  ·rw [if_neg hk];exact keep _ (h.at_ hk1 hk2 hs)
end
end Go.Proofs.YtdobimafhbfkhaaGreat
namespace Go.Proofs.YtdobimafhbfkhaaGreat
open Go.ChangeShapes Go.WideShapes Go.ChangeAt Go.RowKit
set_option maxRecDepth 100000
set_option linter.unusedSimpArgs false
theorem TxI.sizes {n c:Nat}{X:TxM}(h:TxI n c X)(hn:n+c≤150):X.log.length+200≤10000:=by
 have h1:=h.len;have h2:n*(c+1)≤n*(151-n):=Nat.mul_le_mul_left _ (by omega);have h3:∀k:Fin 151,k.val*(151-k.val)≤5776:=by decide +kernel
 have h4:=h3 ⟨n,by omega⟩;simp only at h4;omega
theorem TabI.short {cc:List Bool}{m:aq}(h:TabI cc m):∀r∈m,0<r.length∧r.length≤1000000:=fun r hr=>by
 have h1:=cd (h.fits r hr);have h2:=h1.2;unfold cj at h2;simp at h2;omega
theorem do_ok {B w:World}{D:PH}{x o n c:Nat}{X:TxM}{l:List HP}{e:StmE}{s:StmM}(hs:StmOk D e s)(hI:TxI n c X)(hn:n+c≤150)(hok:okS X.cols s=true)(h:TxIn B w D x o X l) :
  Calls Tryz.prog (doF s.kind) #[.pointer (some ⟨x,0,none⟩),.agg e.cells.toArray] w (et B D x o l (cN X s)):=by
 have hr:=iY hok;have hsz:=hI.sizes hn;have hst:cN X s=if s.kind=4 then X.save s else if s.kind=5 then X.back s.save else if s.kind=6 then X.get s else if s.kind=7 then X.insert s else if s.kind=8 then X.one s.table s.key s.sets else if s.kind=9 then X.drop s.table s.key else
   if s.kind=10 then X.pick s else if s.kind=11 then X.change s else if s.kind=12 then X.clear s else if s.kind=13 then X.opens s else if s.kind=14 then X.fetch s.cursor else if s.kind=17 then X.close s else X.at_ s:=by
  unfold cN;rw [hok]
  rfl
 rw [hst];unfold doF;by_cases h4:s.kind=4
 ·rw [if_pos h4,if_pos h4]
  obtain⟨k,hk1,hk2⟩:=gK hok (.inl h4);exact tr hs hk1 hk2 h
 rw [if_neg h4,if_neg h4];by_cases h5:s.kind=5
 ·rw [if_pos h5,if_pos h5]
  obtain⟨k,hk1,hk2⟩:=gK hok (.inr h5);exact sS hs hk1 hk2 hI.log.log hI.saves h
 rw [if_neg h5,if_neg h5];have tab:(s.kind=6∨s.kind=7∨s.kind=8∨s.kind=9∨s.kind=10∨s.kind=11∨s.kind=12∨s.kind=13)→∃(i:Nat) (cc:List Bool) (m:aq),s.table=(i:Int)∧X.cols[i]?=some cc∧X.tabs[i]?=some m∧TabI cc m∧m.length≤200∧m.length≤n∧okK s.kind (am s.key&&decide (s.key.t=cc.getD 0 false)) (bY cc s.pred) (cG cc s.sets) (bL s) (aU s) (aX cc s.row) (decide (s.pred.nodes.length≤13))=true:=fun hk=>by
  obtain⟨i,cc,hti,hc,hm,he⟩:=dM hok hk;obtain⟨cc',m,hc',hmt,hT,h200,hmn,_⟩:=hI.tab (FO.1 hc).1;rw [hc]at hc';cases hc';exact⟨i,cc,m,hti,hc,hmt,hT,h200,hmn,by rw [←he];exact hok⟩
 by_cases h6:s.kind=6
 ·rw [if_pos h6,if_pos h6]
  obtain⟨i,cc,m,hti,hc,hmt,hT,_⟩:=tab (.inl h6);exact uN hs hti hmt (fun r hr=>(hT.short r hr).2) h
 rw [if_neg h6,if_neg h6];by_cases h7:s.kind=7
 ·rw [if_pos h7,if_pos h7]
  obtain⟨i,cc,m,hti,hc,hmt,hT,h200,hmn,he⟩:=tab (.inr (.inl h7));rw [h7]at he;have hfit:aX cc s.row=true:=by simpa [okK]using he
  obtain⟨k0,h0,hk0,hk1,_⟩:=cO hfit;have h1:=cd hfit;have h2:=h1.2;unfold cj at h2;simp at h2;exact qF hs hti hmt h0 hk1 (fun hno=>by rw [mJ hT hfit];split<;>omega) (by omega) (by omega) h
 rw [if_neg h7,if_neg h7];by_cases h8:s.kind=8
 ·rw [if_pos h8,if_pos h8]
  obtain⟨i,cc,m,hti,hc,hmt,hT,h200,hmn,he⟩:=tab (.inr (.inr (.inl h8)));exact qR hs hti hmt hc hT h200 (by omega) h
 rw [if_neg h8,if_neg h8];by_cases h9:s.kind=9
 ·rw [if_pos h9,if_pos h9]
  obtain⟨i,cc,m,hti,hc,hmt,hT,h200,hmn,he⟩:=tab (.inr (.inr (.inr (.inl h9))));rw [h9]at he;have hkr:am s.key=true:=by simp [okK]at he;exact he.1
  exact pZ hs hti hmt hkr (by omega) h
 rw [if_neg h9,if_neg h9];by_cases h10:s.kind=10
 ·rw [if_pos h10,if_pos h10]
  obtain⟨i,cc,m,hti,hc,hmt,hT,h200,hmn,he⟩:=tab (.inr (.inr (.inr (.inr (.inl h10)))));exact un hs hti hmt (fun r hr=>(hT.short r hr).2) h
 rw [if_neg h10,if_neg h10];by_cases h11:s.kind=11
 ·rw [if_pos h11,if_pos h11]
  obtain⟨i,cc,m,hti,hc,hmt,hT,h200,hmn,he⟩:=tab (.inr (.inr (.inr (.inr (.inr (.inl h11))))));exact pJ hs hti hmt hc hT h200 (fun r hr=>(hT.short r hr).2) hsz h
 rw [if_neg h11,if_neg h11];by_cases h12:s.kind=12
 ·rw [if_pos h12,if_pos h12]
  obtain⟨i,cc,m,hti,hc,hmt,hT,h200,hmn,he⟩:=tab (.inr (.inr (.inr (.inr (.inr (.inr (.inl h12)))))));exact qX hs hti hmt hT h200 (fun r hr=>(hT.short r hr).2) hsz h
 rw [if_neg h12,if_neg h12];obtain⟨k,hk1,hk2⟩:=jO hok (show 13≤s.kind by omega);obtain⟨m,hm,hcm,hcur⟩:=hI.cur hk2;by_cases h13:s.kind=13
 ·rw [if_pos h13,if_pos h13]
  exact tz hs hk1 hk2 h
 rw [if_neg h13,if_neg h13];by_cases h14:s.kind=14
 ·rw [if_pos h14,if_pos h14]
  refine rH hs hk1 hk2 hm (fun hop=>?_) h;obtain⟨⟨i,hti,hi⟩,_⟩:=hcur hop;obtain⟨cc,mt,hc,hmt,hT,_⟩:=hI.tab hi;exact⟨i,mt,hti,hmt,hT.short⟩
 rw [if_neg h14,if_neg h14];by_cases h17:s.kind=17
 ·rw [if_pos h17,if_pos h17]
  exact rC hs hk1 hk2 hm h
 rw [if_neg h17,if_neg h17];refine txAt_ok hs hk1 hk2 hm (fun hop hst=>?_) (by omega) h;obtain⟨⟨i,hti,hi⟩,hkey⟩:=hcur hop;obtain⟨cc,mt,hc,hmt,hT,h200,hmn,hta⟩:=hI.tab hi;exact⟨i,cc,mt,hti,hta,hkey hst⟩
theorem tx_tbls {B w:World}{D:PH}{x o:Nat}{X:TxM}{l:List HP}(h:TxIn B w D x o X l):∃ta tc,w.cell? ⟨x,0,none⟩=some (.pointer (some ⟨o,0,none⟩))∧w.cell? ⟨o,0,none⟩=some (.slice ta X.cols.length tc)∧TblsAt D (.slice ta X.cols.length tc) X.cols:=by
 obtain⟨H,hH,hs⟩:=h;obtain⟨c0,_,_⟩:=dj hs;obtain⟨y,hy,hs2⟩:=gB (jd hs);obtain⟨d0,_⟩:=dJ hs2;have ht:=hy.1;obtain⟨us,h1,h2,h3,h4⟩:=id ht;obtain⟨ta,tc,hv⟩:=h3.shape;have hv2:y.tv = .slice ta X.cols.length tc:=hv;rw [hv2]at d0 ht;exact⟨ta,tc,c0,d0,ht⟩
theorem rR {k:Int}(hk:4≤k∧k≤17):∀args w,(callFunc (doF k) args).run Tryz.prog w = .ok (.enter (doF k) args) w:=by
 have h:k=4∨k=5∨k=6∨k=7∨k=8∨k=9∨k=10∨k=11∨k=12∨k=13∨k=14∨k=15∨k=16∨k=17:=by omega
 rcases h with rfl|rfl|rfl|rfl|rfl|rfl|rfl|rfl|rfl|rfl|rfl|rfl|rfl|rfl
 ·exact enters_of Tryz.func68 (by kernel_rfl) rfl
 ·exact enters_of Tryz.func69 (by kernel_rfl) rfl
 ·exact enters_of Tryz.func70 (by kernel_rfl) rfl
 ·exact enters_of Tryz.func71 (by kernel_rfl) rfl
 ·exact enters_of Tryz.func72 (by kernel_rfl) rfl
 ·exact enters_of Tryz.func73 (by kernel_rfl) rfl
 ·exact enters_of Tryz.func74 (by kernel_rfl) rfl
 ·exact enters_of Tryz.func75 (by kernel_rfl) rfl
 ·exact enters_of Tryz.func76 (by kernel_rfl) rfl
 ·exact enters_of Tryz.func77 (by kernel_rfl) rfl
 ·exact enters_of Tryz.func78 (by kernel_rfl) rfl
 ·exact enters_of Tryz.func80 (by kernel_rfl) rfl
 ·exact enters_of Tryz.func80 (by kernel_rfl) rfl
 ·exact enters_of Tryz.func79 (by kernel_rfl) rfl
theorem ut {B w:World}{D:PH}{x o n c:Nat}{X:TxM}{l:List HP}{e:StmE}{s:StmM}(hs:StmOk D e s)(hnp:s.pred.nodes.length≤1000000)(hI:TxI n c X)(hn:n+c≤150)(h:TxIn B w D x o X l) :
  Calls Tryz.prog 39 #[.pointer (some ⟨x,0,none⟩),.agg e.cells.toArray] w (et B D x o l (cN X s)):=by
 obtain⟨W0,hW0,h2⟩:=ej h e.cells.toArray aZ tSt aL;have xh:=FH hW0;obtain⟨ta,tc,c0,d0,ht⟩:=tx_tbls h2;have hk0:Kept (fun _=>False) W0 W0.drew:=(Kept.refl (fun _=>False) W0).drew;have hpool:PH.le D (aB W0.drew):=(h2.kept hk0).sat.pool;have ye:=FH (wB (ht.mono hpool) (hs.mono hpool) hnp);have A9:=FH (fp (aj ((h2.kept hk0).sat.blk 1 rfl)));have wS:=FH h2;have wR:=FH hs;have HI:=FH hI;have HN:=FH hn;clear h hs hnp hI hn hW0 h2 ht hk0 hpool;go_enter Tryz.func39,Tryz.ntmps39;go_upto_region 1 with fail
 rw [←xh.out];clear xh;generalize w.heap.size+1=ba at wS A9 ⊢;generalize w.heap.size=bs at wS A9 ⊢;refine aH [rq 0 8,rq 1 8,rq 2 8,rq 3 8,rq 4 8,rq 5 8,rq 6 8,rq 7 8,(8,true,0),rq 9 999] ?_;iterate 8 (refine ae rfl rfl fun K hK=>?_;(first|((refine bF _ _ rfl _ _ rfl _ A9.out ?_);go_simp)|go_simp);apply hK;clear hK K)
 refine af rfl ?_;refine al rfl fun K hK=>?_;go_simp;refine ye.out.mono ?_;rintro e1 w1 ⟨rfl,hk1⟩;have wG:=FH ((wS.out.kept (Kept.refl (fun _=>False) W0).drew).kept hk1);clear hk1 ye A9 wS c0 d0;refine hK _ _ ?_;clear hK K;refine wpList_nil ?_;apply And.intro
 ·go_simp
 refine ae rfl rfl fun K hK=>?_;(first|((refine bF _ _ rfl _ _ rfl _ A9.out ?_);go_simp)|go_simp);apply hK;clear hK K;refine ag ?_;cases hok:okS X.cols s with
 | false =>
  have HE:=FH (show cN X s=(X,bJ 167) by unfold cN;rw [hok];rfl);clear hok;go_wp2_with (refine ay rfl _ _ _ rfl aL ba rfl [.int .i64 167,.slice none 0 0,.int .i64 0] rfl aZ wG.out (by kernel_rfl) rfl (by intro u hu;simp at hu;rcases hu with rfl|rfl|rfl<;>rfl) ?_;intro w6 hs6;have wK:=FH hs6;clear hs6 wG);refine bodyPost_ret (av rfl _ _ rfl (aJ rfl (aj (wK.out.sat.blk 0 rfl)))) rfl ?_;rw [HE.out];exact⟨none,0,0,D,rfl,PH.le.refl _,RowsF.nil _,wK.out.drop.drop⟩
 | true =>
  have C4:=FH (do_ok wR.out HI.out HN.out hok wG.out);have hr:=iY hok;obtain⟨x0,x2,x3,x4,x5,x6,x7,x17,x18,x19⟩:=aO (wG.out.sat.blk 1 rfl);rw [wR.out.kind]at x0;have EI:=FH (uH (w:=w1) (x:=x) hr);have hent:=rR hr;clear hok hr;go_upto_region 5 with (go_at_call 50;refine EI.out.mono ?_;rintro e2 w2 ⟨rfl,rfl⟩)
  have A9:=FH (fp (aj (wG.out.sat.blk 1 rfl)));clear x0 x2 x3 x4 x5 x6 x7 x17 x18 x19 EI;generalize doF s.kind=dk at *;go_wp2_with (first|(refine aV rfl _ _ rfl _ _ rfl _ A9.out ?_)|(refine C4.out.mono ?_;rintro e2 w3 ⟨ra,rn,rc,D2,rfl,hle,hrw,hs3⟩;have wU:=FH hle;have xg:=FH hrw;have wI:=FH hs3;clear hle hrw hs3 C4 wG A9)|(refine ay rfl _ _ _ rfl aL ba rfl [_,.slice ra rn rc,_] rfl aZ wI.out (by kernel_rfl) rfl (by intro u hu;simp at hu;rcases hu with rfl|rfl|rfl<;>rfl) ?_;intro w6 hs6;have wK:=FH hs6;clear hs6 wI));refine bodyPost_ret (av rfl _ _ rfl (aJ rfl (aj (wK.out.sat.blk 0 rfl)))) rfl ?_;exact⟨ra,rn,rc,D2,rfl,wU.out,xg.out,wK.out.drop.drop⟩
abbrev j3 : TypeId:=51
structure AnsE where
 e:Int
 ra:Option Addr
 rn:Nat
 rc:Nat
 n:Int
def AnsE.cells (a:AnsE):List Value:=[.int .i64 a.e,.slice a.ra a.rn a.rc,.int .i64 a.n]
theorem AnsE.len (a:AnsE):a.cells.length=3:=rfl
theorem AnsE.one (a:AnsE):∀u∈a.cells,u.oneCell'=true:=by intro u hu;simp [AnsE.cells]at hu;rcases hu with rfl|rfl|rfl<;>rfl
def AnsOk (D:PH)(a:AnsE)(m:AnsM):Prop:=a.e=m.e∧RowsF D (.slice a.ra a.rn a.rc) m.rows∧a.n=m.n
theorem AnsOk.mono {D D':PH}(le:PH.le D D'){a:AnsE}{m:AnsM}(h:AnsOk D a m):AnsOk D' a m:=⟨h.1,h.2.1.mono le,h.2.2⟩
def AnsL (D:PH)(v:Value)(ams:List AnsM):Prop:=∃es:List AnsE,All2 (AnsOk D) es ams∧RdP D 3 v es.length (es.flatMap AnsE.cells)
def StmL (D:PH)(v:Value)(ss:List StmM):Prop:=∃es:List StmE,All2 (StmOk D) es ss∧RdP D 20 v es.length (es.flatMap StmE.cells)
theorem jk (X:TxM)(s:StmM):∀l:List StmM,cF X (l ++ [s])=((cN (cF X l).1 s).1,(cF X l).2 ++ [(cN (cF X l).1 s).2])
 | []=>rfl
 | a::l=>by
  show((cF (cN X a).1 (l ++ [s])).1,(cN X a).2::(cF (cN X a).1 (l ++ [s])).2)=_;rw [jk (cN X a).1 s l]
  rfl
theorem i5 (X:TxM):∀l:List StmM,(cF X l).2.length=l.length
 | []=>rfl
 | a::l=>by
  show((cN X a).2::(cF (cN X a).1 l).2).length=_;rw [List.length_cons,i5,List.length_cons]
theorem j8 (X:TxM)(s:StmM):(cN X s).1.cols=X.cols:=by
 have put:∀(fr:aq) (i:Int) (Y:TxM),(fr.foldl (fun y r=>y.put i r) Y).cols=Y.cols:=fun fr i=>by
  induction fr with
  | nil=>intro Y;rfl
  | cons r fr ih=>intro Y;rw [List.foldl_cons,ih];rfl
 have outs:∀(fr:aq) (i:Int) (Y:TxM),(fr.foldl (fun y r=>y.out i (au r)) Y).cols=Y.cols:=fun fr i=>by
  induction fr with
  | nil=>intro Y;rfl
  | cons r fr ih=>intro Y;rw [List.foldl_cons,ih];rfl
 have hall:∀t l sets,(X.all t l sets).1.cols=X.cols:=fun t l sets=>by
  unfold TxM.all;by_cases h0:(cB (X.col t) sets l []).2=0
  ·rw [if_pos h0];exact put _ _ _
  ·rw [if_neg h0]
 have hone:∀t k sets,(X.one t k sets).1.cols=X.cols:=fun t k sets=>by
  unfold TxM.one;cases aP (X.tab t) k with
  | none=>rfl
  | some r=>exact hall _ _ _
 have hdrop:∀t k,(X.drop t k).1.cols=X.cols:=fun t k=>by
  unfold TxM.drop;cases aP (X.tab t) k with
  | none=>rfl
  | some r=>rfl
 unfold cN;cases okS X.cols s
 ·rfl
 rw [if_neg (show ¬((!true)=true) by decide)];by_cases h4:s.kind=4
 ·rw [if_pos h4]
 rw [if_neg h4];by_cases h5:s.kind=5
 ·rw [if_pos h5]
  unfold TxM.back;by_cases h0:X.saves.getD s.save.toNat 0=0
  ·rw [if_pos h0]
  ·rw [if_neg h0]
 rw [if_neg h5];by_cases h6:s.kind=6
 ·rw [if_pos h6]
 rw [if_neg h6];by_cases h7:s.kind=7
 ·rw [if_pos h7]
  cases (aP (X.tab s.table) (au s.row)).isSome<;>rfl
 rw [if_neg h7];by_cases h8:s.kind=8
 ·rw [if_pos h8];exact hone _ _ _
 rw [if_neg h8];by_cases h9:s.kind=9
 ·rw [if_pos h9];exact hdrop _ _
 rw [if_neg h9];by_cases h10:s.kind=10
 ·rw [if_pos h10]
 rw [if_neg h10];by_cases h11:s.kind=11
 ·rw [if_pos h11];exact hall _ _ _
 rw [if_neg h11];by_cases h12:s.kind=12
 ·rw [if_pos h12];exact outs _ _ _
 rw [if_neg h12];by_cases h13:s.kind=13
 ·rw [if_pos h13];rfl
 rw [if_neg h13];by_cases h14:s.kind=14
 ·rw [if_pos h14]
  unfold TxM.fetch;cases (X.cur s.cursor).opn
  ·rfl
  ·rw [if_neg (show ¬((!true)=true) by decide)]
   cases X.hold (X.cur s.cursor).table (X.cur s.cursor).p (X.cur s.cursor).frm<;>rfl
 rw [if_neg h14];by_cases h17:s.kind=17
 ·rw [if_pos h17]
  cases (X.cur s.cursor).opn<;>rfl
 rw [if_neg h17];unfold TxM.at_;cases hb:(!(X.cur s.cursor).opn || !(X.cur s.cursor).stands || !(X.cur s.cursor).change)
 ·rw [if_neg (by decide)]
  by_cases h16:s.kind=16
  ·rw [if_pos h16];exact hdrop _ _
  ·rw [if_neg h16]
   cases cG (X.col (X.cur s.cursor).table) s.sets
   ·rfl
   ·exact hone _ _ _
 ·rfl
theorem TxI.steps : ∀(l:List StmM) {n c:Nat} {X:TxM},TxI n c X→(∀s∈l,bG s.row∧∀q∈s.sets,q.v.fit)→n+c+l.length≤150→∃n' c',n'+c'=n+c+l.length∧n≤n'∧TxI n' c' (cF X l).1∧(cF X l).1.cols=X.cols
 | [],n,c,X,h,_,_=>⟨n,c,rfl,Gn _,h,rfl⟩
 | s::l,n,c,X,h,hf,hn=>by
  rw [List.length_cons]at hn;obtain⟨n1,c1,e1,le1,h1⟩:=h.step (hf s (Gc ..)).1 (hf s (Gc ..)).2 (by omega);obtain⟨n2,c2,e2,le2,h2,h3⟩:=TxI.steps l h1 (fun q hq=>hf q (F4 _ hq)) (by omega);exact⟨n2,c2,by rw [List.length_cons];omega,by omega,h2,h3.trans (j8 X s)⟩
structure OrI (n:Nat)(O:OrM):Prop where
 well:Well O.cols O.tabs
 few:TabsN n O.tabs
theorem OrI.start {n:Nat}{O:OrM}(h:OrI n O):TxI n 0 (cS O.cols O.tabs) :=
 ⟨.nil h.well h.few,Gp _,(by intro v hv;simp [cS]at hv;omega),(by intro m hm hop;simp [cS,kT]at hm;rw [hm]at hop;cases hop),⟨rfl,rfl⟩⟩
theorem OrI.run {n:Nat}{O:OrM}(h:OrI n O)(l:List StmM)(hf:∀s∈l,bG s.row∧∀q∈s.sets,q.v.fit)(hn:n+l.length≤150):OrI (n+l.length) (O.run l).1:=by
 obtain⟨n',c',e,_,h1,h2⟩:=TxI.steps l h.start hf (by omega);obtain⟨a,b⟩:=h1.log.well;rw [h2]at a;exact⟨a,fun i m hm=>Gq (b i m hm) (by omega)⟩
abbrev tAnss : TypeId:=47
theorem sN : (Tryz.prog.info? aL).map (fun i=>(i.zero,i.size,i.bytes))=some (some (.agg #[.int .i64 0,.slice none 0 0,.int .i64 0]),3,40):=by kernel_rfl
abbrev stZ : StmE:=⟨0,0,0,⟨false,0,⟨#[]⟩⟩,⟨none,0,0⟩,⟨none,0,0⟩,⟨0,0,⟨false,0,⟨#[]⟩⟩,⟨false,0,⟨#[]⟩⟩,none,0,0,[]⟩,0,0,false⟩
def TxAnsV (B:World)(D:PH)(x o:Nat)(l:List HP)(p:TxM×AnsM)(qe qn:Int)(e:Ending)(w':World):Prop:=∃(ra:Option Addr) (rn rc:Nat) (D':PH),e = .returned (.agg #[.int .i64 qe,.slice ra rn rc,.int .i64 qn])∧PH.le D D'∧RowsF D' (.slice ra rn rc) p.2.rows∧TxIn B w' D' x o p.1 l
def DoAns (B:World)(D:PH)(l:List HP)(o:Nat)(p:OrM×List AnsM)(e:Ending)(w':World):Prop:=∃(a:Option Addr) (cc:Nat) (D':PH),e = .returned (.slice a p.2.length cc)∧PH.le D D'∧AnsL D' (.slice a p.2.length cc) p.2∧Sat B D' w' (orP D' o p.1::l)
theorem uU {B w:World}{D:PH}{o n:Nat}{O:OrM}{l:List HP}{lev:Int}{sa:Option Addr}{N sc:Nat}{ss:List StmM}(hst:StmL D (.slice sa N sc) ss)(hnp:∀s∈ss,s.pred.nodes.length≤1000000)(hI:OrI n O)(hn:n+ss.length≤150)(h:Sat B D w (orP D o O::l)) :
  Calls Tryz.prog 17 #[.pointer (some ⟨o,0,none⟩),.agg #[.int .i64 lev,.slice sa N sc]] w (DoAns B D l o (O.run ss)):=by
 obtain⟨es,hes,hrd⟩:=hst;have hel:=hes.len;have hNl:N=es.length:=by obtain⟨_,_,ao,c,h2,_⟩:=hrd;cases h2;rfl
 subst hNl;obtain⟨i0,hinf,hz0,hz1,hz2⟩:=info_parts sN;have xB:=FH (And.intro hinf (And.intro hz0 (And.intro hz1 hz2)));clear hinf hz0 hz1 hz2;have h1:=h.alloc #[.int .i64 lev,.slice sa es.length sc] j3;obtain⟨W2,hW2,h2⟩:∃W,W=(w.alloc (.cells #[.int .i64 lev,.slice sa es.length sc] j3)).alloc (.cells (aN o (.slice none 0 0) [0,0,0,0] [fN,fN,fN]) tTx)∧TxIn B W D (w.heap.size+1) o (cS O.cols O.tabs) (blk w.heap.size #[.int .i64 lev,.slice sa es.length sc] j3::l):=by
  have h3:=h1.alloc (aN o (.slice none 0 0) [0,0,0,0] [fN,fN,fN]) tTx;rw [World.size_alloc]at h3;refine⟨_,rfl,⟨.slice none 0 0,[],[fN,fN,fN]⟩,⟨.nil,.cons (jX D) (.cons (jX D) (.cons (jX D) .nil)),rfl,rfl,Gp _⟩,?_⟩;have h4:=h3.own_nil dx 5;exact h4.perm ((List.Perm.swap _ _ _).trans ((((List.Perm.swap _ _ _).cons _).trans (List.Perm.refl _)).cons _))
 have Ah:=FH hW2;have wJ:=FH h2;have yX:=FH hes;have wQ:=FH hrd;have AX:=FH hnp;have DZ:=FH hI;have HN:=FH hn;have zq:=FH hel;have A6:=FH hI.start;generalize hNN:es.length=N at *;have yV:=FH hNN;clear h h1 hW2 h2 hes hrd hnp hI hn hel hNN;go_enter Tryz.func17,Tryz.ntmps17;go_upto_region 4 with fail
 have hz:Tryz.zeroCells97.setIfInBounds 0 (.pointer (some ⟨o,0,none⟩))=aN o (.slice none 0 0) [0,0,0,0] [fN,fN,fN]:=rfl;rw [hz,←Ah.out];clear hz Ah;generalize w.heap.size+1=bx at wJ ⊢;generalize w.heap.size=bt at wJ ⊢;have wI:=FH (show TxIn B W2 D bx o (cS O.cols O.tabs) (aD aL 3 (.slice none 0 0) 0 []::blk bt #[.int .i64 lev,.slice sa N sc] j3::l)from by
  obtain⟨H,hH,hs⟩:=wJ.out;exact⟨H,hH,(hs.own_nil aL 3).perm (Ge (l₁:=txL D bx o (cS O.cols O.tabs) H) (a:=aD aL 3 (.slice none 0 0) 0 []) (l₂:=blk bt #[.int .i64 lev,.slice sa N sc] j3::l)).symm⟩)
 obtain⟨t0,t1,tf⟩:=dA (wJ.out.sat.blk 0 rfl);clear wJ;go_wp2_with fail;clear t0 t1 tf
 go_loopw [6,17] (fun ov idx wr=>∃(j:Nat) (oa:Option Addr) (oc:Nat) (D2:PH) (aes:List AnsE) (n' c':Nat),ov = .slice oa j oc∧idx = .int .i64 j∧j≤N∧PH.le D D2∧aes.length=j∧All2 (AnsOk D2) aes (cF (cS O.cols O.tabs) (ss.take j)).2∧TxI n' c' (cF (cS O.cols O.tabs) (ss.take j)).1∧n'+c'=n+j∧TxIn B wr D2 bx o (cF (cS O.cols O.tabs) (ss.take j)).1 (aD aL 3 (.slice oa j oc) j (aes.flatMap AnsE.cells)::blk bt #[.int .i64 lev,.slice sa N sc] j3::l)) (fun _ idx _=>N-(intOf idx).toNat)
 case atStart=>exact⟨0,none,0,D,[],n,0,rfl,rfl,Gp _,PH.le.refl _,rfl,.nil,A6.out,rfl,wI.out⟩
 case round =>
  obtain⟨j,oa,oc,D2,aes,n1,c1,rfl,rfl,hj,hle,hal,hao,hti,hnc,htx⟩:=hrel;have wU:=FH hle;have xI:=FH hal;have Ba:=FH hao;have yD:=FH hti;have Ca:=FH hnc;have xE:=FH htx;clear hle hal hao hti hnc htx wI;by_cases hlt:j<N
  ·obtain⟨e,he⟩:∃e,es[j]?=some e:=⟨es[j]'(by rw [yV.out];exact hlt),FP _⟩
   obtain⟨s,hs,hok⟩:=yX.out.get he;have ym:=FH (show ss.take (j+1)=ss.take j ++ [s] by rw [F3,hs];rfl);have hmem:=FQ hs;have yn:=FH (hok.mono wU.out);have hfit:bG s.row∧∀q∈s.sets,q.v.fit:=⟨hok.row.2,hok.sets.2⟩;have Ab:=FH (yD.out.step hfit.1 hfit.2 (by have:=Ca.out;have:=HN.out;have:=zq.out;omega));have hji:(j:Int)<(N:Int):=by omega
   have hjN:j≤150:=by have:=HN.out;have:=zq.out;omega
   obtain⟨sg,so,rfl,hrg⟩:=bi StmE.len ((wQ.out.mono wU.out).rd xE.out.sat) he yV.out;have yH:=FH (fp hrg);have xK:=FH (xE.out.alloc stZ.cells.toArray tSt);clear he hs hok hfit hrg;go_upto_region 8 with (first|(refine aV rfl _ _ rfl _ _ rfl _ yH.out ?_)|(refine ay rfl _ _ _ rfl tSt wr.heap.size rfl e.cells rfl _ xK.out (by kernel_rfl) rfl e.one ?_;intro w5 htx5;have xC:=FH htx5;clear htx5 xK yH xE))
   generalize wr.heap.size=b8 at xC ⊢;have yH:=FH (fp (aj (xC.out.sat.blk 0 rfl)));have xm:=FH (ut yn.out (AX.out s hmem) yD.out (by have:=Ca.out;have:=HN.out;have:=zq.out;omega) xC.out);have zD:=FH (jk (cS O.cols O.tabs) s (ss.take j));rw [←ym.out]at zD;obtain⟨Y,hY⟩:∃Y,(cF (cS O.cols O.tabs) (ss.take j)).1=Y:=⟨_,rfl⟩;obtain⟨AS,hAS⟩:∃A,(cF (cS O.cols O.tabs) (ss.take j)).2=A:=⟨_,rfl⟩;rw [hY]at xm Ab zD xC;rw [hAS]at Ba zD;clear yD hY hAS;clear hmem;obtain⟨n2,c2,hnc2,-,hti2⟩:=Ab.out;have yU:=FH hti2;have Cb:=FH hnc2;clear hnc2 hti2 Ab;obtain⟨qe,qn,hqe,hqn⟩:∃qe qn,(cN Y s).2.e=qe∧(cN Y s).2.n=qn:=⟨_,_,rfl,rfl⟩;have HQ:=FH (And.intro hqe hqn);rw [show et B D2 bx o _ (cN Y s)=TxAnsV B D2 bx o (blk b8 e.cells.toArray tSt::aD aL 3 (.slice oa j oc) j (aes.flatMap AnsE.cells)::blk bt #[.int .i64 lev,.slice (some ⟨sg,so,none⟩) N sc] j3::l) (cN Y s) qe qn by rw [←hqe,←hqn];rfl]at xm;clear hqe hqn;go_wp2_with (first|(refine aV rfl _ _ rfl _ _ rfl _ yH.out ?_)|(go_at_call 39;refine xm.out.mono ?_;rintro e7 w7 ⟨ra,rn,rc,D3,rfl,hle3,hrw3,htx7⟩;have xt:=FH hle3;have xg:=FH hrw3;have AA:=FH htx7.drop;clear hle3 hrw3 htx7 xm xC yH)|(refine dL rfl _ _ rfl aL i0 _ (AnsE.cells ⟨qe,ra,rn,rc,qn⟩) rfl Tryz.underlying47 xB.out.1 xB.out.2.1 (xB.out.2.2.1.trans rfl) (by rw [AnsE.len];decide) (by rw [AnsE.len];decide) ?_;have C5:=FH ((AA.out.alloc (AnsE.cells ⟨qe,ra,rn,rc,qn⟩).toArray aL).perm (List.Perm.swap _ _ _));have zO:=FH (bC (size:=3) (n:=1) (ak w7 (.cells (AnsE.cells ⟨qe,ra,rn,rc,qn⟩).toArray aL)) rfl (by unfold maxLen;omega));clear AA)|(at_builtin;refine gw _ rfl _ _ tAnss rfl aL i0 _ 3 40 Tryz.underlying47 xB.out.1 xB.out.2.1 xB.out.2.2.1 xB.out.2.2.2 rfl _ j _ rfl C5.out _ 1 _ rfl zO.out (by simpa using AnsE.one ⟨qe,ra,rn,rc,qn⟩) (by unfold maxLen;omega) (by omega) ?_;intro oa2 oc2 w9 htx9;have Ea:=FH (htx9.perm (List.Perm.swap _ _ _)).drop;clear htx9 C5 zO));go_roundw
   case rel =>
    refine⟨j+1,oa2,oc2,D3,aes ++ [⟨qe,ra,rn,rc,qn⟩],n2,c2,rfl,by go_num,by omega,wU.out.trans xt.out,by rw [FR,xI.out];rfl,?_,?_,by have:=Cb.out;have:=Ca.out;omega,?_⟩
    ·rw [zD.out]
     exact(Ba.out.imp (fun _ _ h=>h.mono xt.out)).snoc ⟨HQ.out.1.symm,xg.out,HQ.out.2.symm⟩
    ·rw [zD.out];exact yU.out
    ·rw [zD.out]
     have:=Ea.out;rw [FT,List.flatMap_singleton];exact this
   case measure=>simp [intOf];omega
  ·obtain rfl:j=N:=by omega
   have hji:¬((j:Int)<(j:Int)):=by omega
   have hall:ss.take j=ss:=FS (by have:=zq.out;omega);rw [hall]at Ba xE yD;obtain⟨D3,hle3,hrd3,htx3⟩:=mg xE.out;have HF:=FH (show ∃D',PH.le D D'∧AnsL D' (.slice oa j oc) (O.run ss).2∧Sat B D' _ (orP D' o (O.run ss).1::l)from by
    obtain⟨H,hH,hs⟩:=htx3;refine⟨D3,wU.out.trans hle3,⟨aes,Ba.out.imp (fun _ _ h=>h.mono hle3),by rw [xI.out];exact hrd3⟩,?_⟩;have h1:=(jd hs).perm (List.Perm.refl _);have h2:Sat B D3 _ (orP D3 o ⟨(cF (cS O.cols O.tabs) ss).1.cols,(cF (cS O.cols O.tabs) ss).1.tabs⟩::l):=(((h1.swap.drop).swap.drop).swap.drop);have h3:(cF (cS O.cols O.tabs) ss).1.cols=O.cols:=by
     have:∀(l:List StmM) (X:TxM),(cF X l).1.cols=X.cols:=fun l=>by
      induction l with
      | nil=>intro X;rfl
      | cons s l ih=>intro X;exact(ih _).trans (j8 X s)
     exact this ss _
    rw [h3]at h2;exact h2)
   clear hrd3 htx3 hle3 xE Ba yD;have hss:ss.length=j:=zq.out.symm;go_wp2_with fail;go_ret;obtain⟨D',f1,f2,f3⟩:=HF.out;have hl2:(O.run ss).2.length=j:=(i5 _ ss).trans hss;exact⟨oa,oc,D',by rw [hl2];rfl,f1,by rw [hl2];exact f2,f3⟩
end Go.Proofs.YtdobimafhbfkhaaGreat
