/- Joined texts: The store as data: what is inserted, replaced, removed, given up, restored at one key. The store as data: the plain laws of StoreTraces, StoreNumbers, StoreRoom. -/
import Derived.Test.YtcbklkcpjldcjaaJ34
import Derived.Test.YtcbklkcpjldcjaaJ42
/- The store as data: what is inserted, replaced, removed, given up, restored at one key. -/
namespace Go.Proofs.Ytcbklkcpjldcjaa
open Go.ChangeShapes Go.WideShapes Go.ChangeAt Go.RowKit
set_option maxRecDepth 100000
set_option linter.unusedSimpArgs false

section
variable {m : TabM} {k : Val} {p p' : PlM} {A : StM} {j n : Nat} {c : List Bool} {r : List Val}
abbrev ltM (m : TabM) (k : Val) : TabM := m.filter (fun q => decide (valCmp q.1 k < 0))
abbrev gtM (m : TabM) (k : Val) : TabM := m.filter (fun q => decide (0 < valCmp q.1 k))
abbrev eqM (m : TabM) (k : Val) : TabM := m.filter (fun q => decide (valCmp q.1 k = 0))
theorem lt_of_lt {x : Val × PlM} (h : x ∈ ltM m k) : valCmp x.1 k < 0 := by simpa using (List.mem_filter.1 h).2
theorem gt_of_gt {x : Val × PlM} (h : x ∈ gtM m k) : 0 < valCmp x.1 k := by simpa using (List.mem_filter.1 h).2
theorem eq_of_eq {x : Val × PlM} (h : x ∈ eqM m k) : valCmp x.1 k = 0 := by simpa using (List.mem_filter.1 h).2
theorem ins_at : atM (insM m k p) k = some p := by
  unfold atM findM insM
  rw [List.find?_append, List.find?_eq_none.2 (fun x hx => by
    have h1 := lt_of_lt hx
    have : ¬ (x.1 = k) := fun e => by rw [e, cmp_self] at h1; omega
    simp [this]), Option.none_or, List.find?_cons]
  simp
theorem ins_ins : insM (insM m k p) k p' = insM m k p' := by
  have e1 : (insM m k p).filter (fun q => decide (valCmp q.1 k < 0)) = ltM m k := by
    unfold insM
    rw [List.filter_append, List.filter_cons, if_neg (by simp [cmp_self]), filter_all (l := ltM m k) (fun x hx => by simpa using lt_of_lt hx), filter_none (l := gtM m k) (fun x hx => by have := gt_of_gt hx; simp; omega), List.append_nil]
  have e2 : (insM m k p).filter (fun q => decide (0 < valCmp q.1 k)) = gtM m k := by
    unfold insM
    rw [List.filter_append, List.filter_cons, if_neg (by simp [cmp_self]), filter_none (l := ltM m k) (fun x hx => by have := lt_of_lt hx; simp; omega), filter_all (l := gtM m k) (fun x hx => by simpa using gt_of_gt hx), List.nil_append]
  show _ ++ (k, p') :: _ = _
  rw [e1, e2]
  rfl
theorem del_ins : delM (insM m k p) k = ltM m k ++ gtM m k := by
  unfold delM insM
  rw [List.filter_append, List.filter_cons, if_neg (by simp [cmp_self]), filter_all (l := ltM m k) (fun x hx => by have := lt_of_lt hx; simp; omega), filter_all (l := gtM m k) (fun x hx => by have := gt_of_gt hx; simp; omega)]
theorem mem_at : ∀ {m : TabM}, SortedL (tl m) → (k, p) ∈ m → atM m k = some p
  | [], _, h => by cases h
  | x :: m, hs, h => by
    have h' : SortedL (tl m) := (List.pairwise_cons.1 hs).2
    have hx : ∀ y ∈ m, valCmp x.1 y.1 < 0 := fun y hy => (List.pairwise_cons.1 hs).1 (y.1, y.2.s) (List.mem_map.2 ⟨y, hy, rfl⟩)
    unfold atM findM
    rw [List.find?_cons]
    rcases List.mem_cons.1 h with h | h
    · rw [← h]; simp
    · have h1 := hx _ h
      have : ¬ (x.1 = k) := fun e => by rw [e] at h1; dsimp only at h1; rw [cmp_self] at h1; omega
      simp only [this, decide_false]
      exact mem_at h' h
theorem parts (hs : SortedL (tl m)) (k : Val) : m = ltM m k ++ (eqM m k ++ gtM m k) := tab_parts hs
theorem eq_none (hr : RightL (tl m)) (hs : SortedL (tl m)) (hk : valRight k = true) (h : atM m k = none) : eqM m k = [] := by
  cases he : eqM m k with
  | nil => rfl
  | cons x l =>
    have hx : x ∈ eqM m k := by rw [he]; exact List.mem_cons_self ..
    have h1 := (List.mem_filter.1 hx).1
    have h2 := cmp_eq (hr (x.1, x.2.s) (List.mem_map.2 ⟨x, h1, rfl⟩)) hk (eq_of_eq hx)
    have h3 : (k, x.2) ∈ m := by rw [← h2]; exact h1
    rw [mem_at hs h3] at h
    cases h
/-- what stands there is put there: nothing changes -/
theorem ins_same (hr : RightL (tl m)) (hs : SortedL (tl m)) (hk : valRight k = true) (h : atM m k = some p) : insM m k p = m := by
  have hp := parts hs k
  have he : eqM m k = [(k, p)] := by
    have hall : ∀ x ∈ eqM m k, x = (k, p) := fun x hx => by
      have h1 := (List.mem_filter.1 hx).1
      have h2 := cmp_eq (hr (x.1, x.2.s) (List.mem_map.2 ⟨x, h1, rfl⟩)) hk (eq_of_eq hx)
      have h3 : (k, x.2) ∈ m := by rw [← h2]; exact h1
      rw [mem_at hs h3] at h
      have h4 := Option.some.inj h
      obtain ⟨x1, x2⟩ := x
      simp at h2 h4
      rw [h2, h4]
    have hmem : (k, p) ∈ eqM m k := List.mem_filter.2 ⟨atM_mem h, by simp [cmp_self]⟩
    have hsub : SortedL (tl (eqM m k)) := by
      have : tl (eqM m k) = (tl m).filter (fun q => decide (valCmp q.1 k = 0)) := by unfold tl; rw [List.filter_map]; rfl
      rw [this]
      exact List.Pairwise.filter _ hs
    cases he : eqM m k with
    | nil => rw [he] at hmem; cases hmem
    | cons x l =>
      rw [he] at hall hsub
      have hx := hall x (List.mem_cons_self ..)
      cases l with
      | nil => rw [hx]
      | cons y l =>
        have hy := hall y (List.mem_cons_of_mem _ (List.mem_cons_self ..))
        have := (List.pairwise_cons.1 hsub).1 (y.1, y.2.s) (List.mem_cons_self ..)
        dsimp only at this
        rw [hx, hy, cmp_self] at this
        omega
  rw [he] at hp
  exact hp.symm
def cnt (m : TabM) : Nat := (m.filter (fun p => !p.2.kept)).length
theorem cnt_app (a b : TabM) : cnt (a ++ b) = cnt a + cnt b := by unfold cnt; rw [List.filter_append, List.length_append]
theorem cnt_le (m : TabM) : cnt m ≤ m.length := List.length_filter_le _ _
theorem cnt_ins (hr : RightL (tl m)) (hs : SortedL (tl m)) (hk : valRight k = true) (hp : p.kept = false) (ht : takenM m k = false) : cnt (insM m k p) = cnt m + 1 := by
  have hpa := parts hs k
  have he : cnt (eqM m k) = 0 := by
    unfold cnt
    rw [filter_none, List.length_nil]
    intro x hx
    have h1 := (List.mem_filter.1 hx).1
    have h2 := cmp_eq (hr (x.1, x.2.s) (List.mem_map.2 ⟨x, h1, rfl⟩)) hk (eq_of_eq hx)
    have h3 : (k, x.2) ∈ m := by rw [← h2]; exact h1
    unfold takenM at ht
    rw [mem_at hs h3] at ht
    exact ht
  have e1 : cnt m = cnt (ltM m k) + (cnt (eqM m k) + cnt (gtM m k)) := by rw [← cnt_app, ← cnt_app, ← hpa]
  have e2 : cnt (insM m k p) = cnt (ltM m k) + (1 + cnt (gtM m k)) := by
    show cnt (ltM m k ++ ([(k, p)] ++ gtM m k)) = _
    rw [cnt_app, cnt_app]
    have : cnt [(k, p)] = 1 := by unfold cnt; simp [hp]
    rw [this]
  omega
theorem spn0_all (v : Val) : spanIn spn0 v = true := rfl
theorem scan_cnt (A : StM) (i : Int) : (scanA A i spn0).length = cnt (A.tab i) := by
  unfold scanA cnt
  rw [List.length_map]
  congr 1
theorem cnt_used (hI : StI n A) (hm : A.tabs[j]? = some m) : (cnt m : Int) ≤ A.used := by
  have h1 := cnt_le m
  have h2 : m.length ∈ A.tabs.map List.length := List.mem_map.2 ⟨m, List.mem_of_getElem? hm, rfl⟩
  have h3 := le_sum h2
  have h4 := hI.used
  omega
/-! a store whose table is known -/
theorem put_tab (hm : A.tabs[j]? = some m) (hj : j < A.cols.length) : (putM A j m k p).tab (j : Int) = insM m k p ∧ (putM A j m k p).has (j : Int) = true ∧ (putM A j m k p).tabs[j]? = some (insM m k p) := by
  have h1 : (putM A j m k p).tabs[j]? = some (insM m k p) := by
    unfold putM
    exact List.getElem?_set_self (List.getElem?_eq_some_iff.1 hm).1
  have h2 := tab_at (M := putM A j m k p) hj h1
  exact ⟨h2.2, h2.1, h1⟩
theorem ins_taken : takenM (insM m k p) k = !p.kept ∧ keptM (insM m k p) k = p.kept ∧ slotM (insM m k p) k = p.s := by
  unfold takenM keptM slotM
  rw [ins_at]
  exact ⟨rfl, rfl, rfl⟩
theorem has_ins : hasK (tl (insM m k p)) k = true := by
  rw [← tl_ins]
  exact hasK_ins _ _ _
end
end Go.Proofs.Ytcbklkcpjldcjaa

/- The store as data: the plain laws of StoreTraces, StoreNumbers, StoreRoom. -/
namespace Go.Proofs.Ytcbklkcpjldcjaa
open Go.ChangeShapes Go.WideShapes Go.ChangeAt Go.RowKit
set_option maxRecDepth 100000
set_option linter.unusedSimpArgs false

section
variable {m : TabM} {k : Val} {p p' : PlM} {A : StM} {j n : Nat} {c : List Bool} {r : List Val}
/-- what an insertion does -/
theorem ins_law (hI : StI n A) (t : Int) (r : List Val) :
    ((A.ins t r).2.2 ≠ 0 ∧ (A.ins t r).2.1 = 0 ∧ (A.ins t r).1 = A) ∨
    ∃ (j : Nat) (c : List Bool) (m : TabM), t = (j : Int) ∧ j < A.cols.length ∧ A.cols[j]? = some c ∧ A.tabs[j]? = some m ∧ A.tab t = m ∧ SortedL (tl m) ∧ RightL (tl m) ∧ valRight (keyOf r) = true ∧ A.fits t r = true ∧ 1 ≤ r.length ∧ r[0]? = some (keyOf r) ∧ takenM m (keyOf r) = false ∧ (keptM m (keyOf r) = true ∨ A.used < A.room) ∧ A.ins t r = (putM { A with last := A.last + 1 } j m (keyOf r) (plB false (A.last + 1) r), A.last + 1, 0) := by
  cases hf : A.fits t r
  · refine .inl ?_
    unfold StM.ins
    rw [hf]
    simp
  · obtain ⟨j, c, m, rfl, hj, hcj, hm, htab, hok, hs, hrt, hft, hhd, hkr, hr4⟩ := fits_key hI hf
    cases ht : takenM m (keyOf r)
    · cases hb : (!keptM m (keyOf r) && decide (A.room ≤ A.used))
      · refine .inr ⟨j, c, m, rfl, hj, hcj, hm, htab, hs, hrt, hkr, rfl, (fits_len hft).1, ?_, ht, ?_, ?_⟩
        · cases r with
          | nil => cases hhd
          | cons x r => rfl
        · cases hk : keptM m (keyOf r)
          · rw [hk] at hb
            simp at hb
            exact .inr hb
          · exact .inl rfl
        · unfold StM.ins
          rw [hf, htab, ht, hb]
          simp
      · refine .inl ?_
        unfold StM.ins
        rw [hf, htab, ht, hb]
        simp
    · refine .inl ?_
      unfold StM.ins
      rw [hf, htab, ht]
      simp
theorem fits_has (h : A.fits (j : Int) r = true) : A.has (j : Int) = true := by unfold StM.fits at h; rw [Bool.and_eq_true] at h; exact h.1
theorem not_has (_hs : SortedL (tl m)) (hr : RightL (tl m)) (hk : valRight k = true) (h1 : takenM m k = false) (h2 : keptM m k = false) : atM m k = none := by
  have h := neither_has hr hk h1 h2
  rw [has_isSome hr hk] at h
  cases h3 : atM m k with
  | none => rfl
  | some p => rw [h3] at h; cases h

theorem traces_law (hI : StI n A) (t : Int) (r : List Val) (he : (A.ins t r).2.2 = 0) :
    1 ≤ r.length ∧ r[0]? = some (keyOf r) ∧ (scanA (A.ins t r).1 t spn0).length = (scanA A t spn0).length + 1 ∧
    ((A.ins t r).1.used = A.used ∨ ((A.ins t r).1.used ≠ A.used ∧ (A.ins t r).1.fre t (keyOf r) = ((A.ins t r).1, 60) ∧ ((A.ins t r).1.rmv t (keyOf r)).2 = 0 ∧
      (((A.ins t r).1.rmv t (keyOf r)).1.fre t (keyOf r)).2 = 0 ∧ (((A.ins t r).1.rmv t (keyOf r)).1.fre t (keyOf r)).1.fre t (keyOf r) = ((((A.ins t r).1.rmv t (keyOf r)).1.fre t (keyOf r)).1, 61) ∧
      ((((A.ins t r).1.rmv t (keyOf r)).1.fre t (keyOf r)).1.ins t r).2 = ((A.ins t r).2.1 + 1, 0) ∧
      (scanA ((((A.ins t r).1.rmv t (keyOf r)).1.fre t (keyOf r)).1.ins t r).1 t spn0).length = (scanA A t spn0).length + 1)) := by
  rcases ins_law hI t r with ⟨h1, _, _⟩ | ⟨j, c, m, rfl, hj, hc, hm, htab, hs, hr, hkr, hf, hl, h0, ht, hroom, hins⟩
  · exact absurd he h1
  · have hh := fits_has hf
    rw [hins]
    dsimp only
    generalize hk : keyOf r = k at *
    have hm' : ({ A with last := A.last + 1 } : StM).tabs[j]? = some m := hm
    obtain ⟨a1, a2, a3⟩ := put_tab (k := k) (p := plB false (A.last + 1) r) hm' hj
    have c1 : (scanA (putM { A with last := A.last + 1 } j m k (plB false (A.last + 1) r)) (j : Int) spn0).length = (scanA A (j : Int) spn0).length + 1 := by
      rw [scan_cnt, scan_cnt, a1, htab]
      exact cnt_ins hr hs hkr rfl ht
    refine ⟨hl, h0, c1, ?_⟩
    cases hkept : keptM m k
    · right
      have hno := not_has hs hr hkr ht hkept
      have hhas : hasK (tl m) k = false := neither_has hr hkr ht hkept
      have hrm : A.used < A.room := by
        rcases hroom with h | h
        · rw [hkept] at h; cases h
        · exact h
      obtain ⟨t1, t2, t3⟩ := ins_taken (m := m) (k := k) (p := plB false (A.last + 1) r)
      have u1 : (putM { A with last := A.last + 1 } j m k (plB false (A.last + 1) r)).used = A.used + 1 := by
        unfold putM
        simp [hhas]
      generalize hA1 : putM { A with last := A.last + 1 } j m k (plB false (A.last + 1) r) = A1 at *
      have g1 : A1.cols = A.cols ∧ A1.room = A.room ∧ A1.last = A.last + 1 ∧ A1.tabs = A.tabs.set j (insM m k (plB false (A.last + 1) r)) := by rw [← hA1]; exact ⟨rfl, rfl, rfl, rfl⟩
      have f1 : A1.fre (j : Int) k = (A1, 60) := by
        unfold StM.fre
        rw [a2, a1, t1]
        rfl
      have r1 : A1.rmv (j : Int) k = (putM A1 j (insM m k (plB false (A.last + 1) r)) k (plB true 0 []), 0) := by
        unfold StM.rmv
        rw [a2, a1, t1]
        rfl
      have hj1 : j < A1.cols.length := by rw [g1.1]; exact hj
      obtain ⟨b1, b2, b3⟩ := put_tab (k := k) (p := plB true 0 []) a3 hj1
      obtain ⟨s1, s2, s3⟩ := ins_taken (m := insM m k (plB false (A.last + 1) r)) (k := k) (p := plB true 0 [])
      have e4 : (putM A1 j (insM m k (plB false (A.last + 1) r)) k (plB true 0 [])).fre (j : Int) k = ({ A with last := A.last + 1 }, 0) := by
        unfold StM.fre
        rw [b2, b1, s1, s2]
        simp only [plB, Bool.not_true, Bool.false_eq_true, if_false, if_true]
        have q1 : (putM A1 j (insM m k (plB false (A.last + 1) r)) k (plB true 0 [])).used = A.used + 1 := by
          unfold putM
          simp [has_ins, u1]
        have q2 : delM (insM (insM m k (plB false (A.last + 1) r)) k (plB true 0 [])) k = m := by
          rw [ins_ins, del_ins]
          have hp := parts hs k
          rw [eq_none hr hs hkr hno, List.nil_append] at hp
          exact hp.symm
        have q3 : (putM A1 j (insM m k (plB false (A.last + 1) r)) k (plB true 0 [])).tabs = (A1.tabs).set j (insM (insM m k (plB false (A.last + 1) r)) k (plB true 0 [])) := rfl
        have q4 : A.tabs.set j m = A.tabs := by
          obtain ⟨hjl, hjm⟩ := List.getElem?_eq_some_iff.1 hm
          rw [← hjm]
          exact List.set_getElem_self hjl
        show (({ (putM A1 j (insM m k (plB false (A.last + 1) r)) k (plB true 0 [])) with tabs := (putM A1 j (insM m k (plB false (A.last + 1) r)) k (plB true 0 [])).tabs.set (j : Int).toNat (delM (insM (insM m k (plB false (A.last + 1) r)) k (plB true 0 [])) k), used := (putM A1 j (insM m k (plB false (A.last + 1) r)) k (plB true 0 [])).used - 1 } : StM), (0 : Int)) = _
        rw [q1, q2, q3, g1.2.2.2, Int.toNat_natCast, List.set_set, List.set_set, q4]
        have q5 : (putM A1 j (insM m k (plB false (A.last + 1) r)) k (plB true 0 [])).cols = A.cols := g1.1
        have q6 : (putM A1 j (insM m k (plB false (A.last + 1) r)) k (plB true 0 [])).room = A.room := g1.2.1
        have q7 : (putM A1 j (insM m k (plB false (A.last + 1) r)) k (plB true 0 [])).last = A.last + 1 := g1.2.2.1
        have q8 : A.used + 1 - 1 = A.used := by omega
        dsimp only
        rw [q5, q6, q7, q8]
      have f5 : ({ A with last := A.last + 1 } : StM).fre (j : Int) k = ({ A with last := A.last + 1 }, 61) := by
        unfold StM.fre
        have x1 : ({ A with last := A.last + 1 } : StM).has (j : Int) = true := hh
        have x2 : ({ A with last := A.last + 1 } : StM).tab (j : Int) = m := htab
        rw [x1, x2, ht, hkept]
        rfl
      have i6 : ({ A with last := A.last + 1 } : StM).ins (j : Int) r = (putM { A with last := A.last + 1 + 1 } j m k (plB false (A.last + 1 + 1) r), A.last + 1 + 1, 0) := by
        unfold StM.ins
        have x0 : ({ A with last := A.last + 1 } : StM).fits (j : Int) r = true := hf
        have x2 : ({ A with last := A.last + 1 } : StM).tab (j : Int) = m := htab
        rw [x0, x2, hk, ht, hkept]
        have x3 : ¬ (A.room ≤ A.used) := by omega
        simp [x3]
      refine ⟨by omega, f1, by rw [r1], ?_, ?_, ?_, ?_⟩
      · rw [r1]; show (StM.fre _ _ _).2 = 0; rw [e4]
      · rw [r1]; show (StM.fre (StM.fre _ _ _).1 _ _) = _; rw [e4]; exact f5
      · rw [r1]; show (StM.ins (StM.fre _ _ _).1 _ _).2 = _; rw [e4]; show (StM.ins _ _ _).2 = _; rw [i6]
      · rw [r1]; show (scanA (StM.ins (StM.fre _ _ _).1 _ _).1 _ _).length = _; rw [e4]; show (scanA (StM.ins _ _ _).1 _ _).length = _; rw [i6]
        have hm2 : ({ A with last := A.last + 1 + 1 } : StM).tabs[j]? = some m := hm
        obtain ⟨z1, _, _⟩ := put_tab (k := k) (p := plB false (A.last + 1 + 1) r) hm2 hj
        rw [scan_cnt, scan_cnt, z1, htab]
        exact cnt_ins hr hs hkr rfl ht
    · left
      unfold putM
      simp [taken_has hr hkr (.inr hkept)]

/-- numbers -/
theorem numbers_law (hI : StI n A) (t : Int) (r : List Val) (he : (A.ins t r).2.2 = 0) :
    1 ≤ r.length ∧ r[0]? = some (keyOf r) ∧ 1 ≤ (A.ins t r).2.1 ∧ ((A.ins t r).1.rep t r).2 = 0 ∧ gotM ((A.ins t r).1.rep t r).1 t (keyOf r) = true ∧ gnum ((A.ins t r).1.rep t r).1 t (keyOf r) = (A.ins t r).2.1 ∧
      ((((A.ins t r).1.rep t r).1.rmv t (keyOf r)).1.ins t r).2 = ((A.ins t r).2.1 + 1, 0) ∧ gotM ((((A.ins t r).1.rep t r).1.rmv t (keyOf r)).1.ins t r).1 t (keyOf r) = true ∧ gnum ((((A.ins t r).1.rep t r).1.rmv t (keyOf r)).1.ins t r).1 t (keyOf r) = (A.ins t r).2.1 + 1 := by
  rcases ins_law hI t r with ⟨h1, _, _⟩ | ⟨j, c, m, rfl, hj, hc, hm, htab, hs, hr, hkr, hf, hl, h0, ht, hroom, hins⟩
  · exact absurd he h1
  · have hh := fits_has hf
    rw [hins]
    dsimp only
    generalize hk : keyOf r = k at *
    have hm' : ({ A with last := A.last + 1 } : StM).tabs[j]? = some m := hm
    obtain ⟨a1, a2, a3⟩ := put_tab (k := k) (p := plB false (A.last + 1) r) hm' hj
    obtain ⟨t1, t2, t3⟩ := ins_taken (m := m) (k := k) (p := plB false (A.last + 1) r)
    have g1 : (putM { A with last := A.last + 1 } j m k (plB false (A.last + 1) r)).cols = A.cols ∧ (putM { A with last := A.last + 1 } j m k (plB false (A.last + 1) r)).last = A.last + 1 := ⟨rfl, rfl⟩
    have gf : (putM { A with last := A.last + 1 } j m k (plB false (A.last + 1) r)).fits (j : Int) r = true := hf
    generalize putM { A with last := A.last + 1 } j m k (plB false (A.last + 1) r) = A1 at *
    have hj1 : j < A1.cols.length := by rw [g1.1]; exact hj
    have e2 : A1.rep (j : Int) r = (putM A1 j (insM m k (plB false (A.last + 1) r)) k (plB false (A.last + 1) r), 0) := by
      unfold StM.rep
      rw [gf, hk, a1, t1, t3]
      rfl
    obtain ⟨b1, b2, b3⟩ := put_tab (k := k) (p := plB false (A.last + 1) r) a3 hj1
    obtain ⟨s1, s2, s3⟩ := ins_taken (m := insM m k (plB false (A.last + 1) r)) (k := k) (p := plB false (A.last + 1) r)
    have bl : (putM A1 j (insM m k (plB false (A.last + 1) r)) k (plB false (A.last + 1) r)).cols = A.cols ∧ (putM A1 j (insM m k (plB false (A.last + 1) r)) k (plB false (A.last + 1) r)).last = A.last + 1 := g1
    rw [e2]
    dsimp only
    generalize putM A1 j (insM m k (plB false (A.last + 1) r)) k (plB false (A.last + 1) r) = A2 at *
    generalize insM (insM m k (plB false (A.last + 1) r)) k (plB false (A.last + 1) r) = m2 at *
    have hj2 : j < A2.cols.length := by rw [bl.1]; exact hj
    have e3 : A2.rmv (j : Int) k = (putM A2 j m2 k (plB true 0 []), 0) := by
      unfold StM.rmv
      rw [b2, b1, s1]
      rfl
    obtain ⟨d1, d2, d3⟩ := put_tab (k := k) (p := plB true 0 []) b3 hj2
    obtain ⟨v1, v2, v3⟩ := ins_taken (m := m2) (k := k) (p := plB true 0 [])
    have dl : (putM A2 j m2 k (plB true 0 [])).cols = A.cols ∧ (putM A2 j m2 k (plB true 0 [])).last = A.last + 1 := bl
    have df : (putM A2 j m2 k (plB true 0 [])).fits (j : Int) r = true := by
      have : (putM A2 j m2 k (plB true 0 [])).fits (j : Int) r = A.fits (j : Int) r := by unfold StM.fits StM.has; rw [dl.1]
      rw [this, hf]
    rw [e3]
    dsimp only
    generalize putM A2 j m2 k (plB true 0 []) = A3 at *
    generalize insM m2 k (plB true 0 []) = m3 at *
    have hj3 : j < A3.cols.length := by rw [dl.1]; exact hj
    have e4 : A3.ins (j : Int) r = (putM { A3 with last := A3.last + 1 } j m3 k (plB false (A3.last + 1) r), A3.last + 1, 0) := by
      unfold StM.ins
      rw [df, hk, d1, v1, v2]
      simp [plB]
    have d3' : ({ A3 with last := A3.last + 1 } : StM).tabs[j]? = some m3 := d3
    obtain ⟨f1, f2, f3⟩ := put_tab (k := k) (p := plB false (A3.last + 1) r) d3' hj3
    obtain ⟨x1, x2, x3⟩ := ins_taken (m := m3) (k := k) (p := plB false (A3.last + 1) r)
    have hlast := hI.last
    rw [e4, dl.2]
    rw [dl.2] at f1 f2 x1 x3
    have y1 : gotM A2 (j : Int) k = true := by unfold gotM; rw [b2, b1, s1]; rfl
    have y2 : gotM (putM { A3 with last := A.last + 1 + 1 } j m3 k (plB false (A.last + 1 + 1) r)) (j : Int) k = true := by unfold gotM; rw [f2, f1, x1]; rfl
    refine ⟨hl, h0, by omega, rfl, y1, ?_, rfl, y2, ?_⟩
    · unfold gnum
      rw [y1, b1, s3]
      rfl
    · unfold gnum
      rw [y2, f1, x3]
      rfl
/-- a row that is there, removed and restored: the same store -/
theorem back_law (hI : StI n A) (hb : A.bare = A) (hm : A.tabs[j]? = some m) (hj : j < A.cols.length) {q : Val × PlM} (hq : q ∈ m) (hk : q.2.kept = false) :
    q.2.row[0]? = some q.1 ∧ gotM A (j : Int) q.1 = true ∧ grow A (j : Int) q.1 = q.2.row ∧ (A.rmv (j : Int) q.1).2 = 0 ∧ gotM (A.rmv (j : Int) q.1).1 (j : Int) q.1 = false ∧
    (A.rmv (j : Int) q.1).1.rst (j : Int) q.2.row (gnum A (j : Int) q.1) = (A, 0) := by
  obtain ⟨h1, h2⟩ := tab_at hj hm
  obtain ⟨k, p⟩ := q
  dsimp only at hk ⊢
  have hs := hI.tabs m (List.mem_of_getElem? hm)
  obtain ⟨c, hc⟩ : ∃ c, A.cols[j]? = some c := ⟨A.cols[j], List.getElem?_eq_getElem hj⟩
  have hok := hI.good.tabs j c m hc hm
  have hft := ((hok _ hq).2 hk).1
  have hhd := ((hok _ hq).2 hk).2
  dsimp only at hft hhd
  have hkr : valRight k = true := hs.2 (k, p.s) (List.mem_map.2 ⟨_, hq, rfl⟩)
  have hat := mem_at hs.1 hq
  have hta : takenM m k = true := by unfold takenM; rw [hat]; simp [hk]
  have hgot : gotM A (j : Int) k = true := by unfold gotM; rw [h1, h2, hta]; rfl
  have hsl : slotM m k = p.s := by unfold slotM; rw [hat]
  have hnum : gnum A (j : Int) k = p.num := by unfold gnum; rw [hgot, h2, hsl]; rfl
  have hrow : grow A (j : Int) k = p.row := by unfold grow rowM; rw [hgot, h2, hat]; rfl
  have hkey : keyOf p.row = k := by
    unfold keyOf
    cases hr : p.row with
    | nil => rw [hr] at hhd; cases hhd
    | cons x l => rw [hr] at hhd; simp at hhd; simpa using hhd
  have hpb : p = plB false p.num p.row := by
    have h3 : bareT m = m := by
      have h4 := bare_get (M := A) hm
      rw [hb, hm] at h4
      exact (Option.some.inj h4).symm
    have h5 : atM (bareT m) k = (atM m k).map PlM.bare := bare_at
    rw [h3, hat] at h5
    have h6 := Option.some.inj h5
    rw [h6]
    show plB p.kept p.num p.row = plB false p.num p.row
    rw [hk]
  have e1 : A.rmv (j : Int) k = (putM A j m k (plB true 0 []), 0) := by
    unfold StM.rmv
    rw [h1, h2, hta]
    rfl
  obtain ⟨d1, d2, d3⟩ := put_tab (k := k) (p := plB true 0 []) hm hj
  obtain ⟨v1, v2, v3⟩ := ins_taken (m := m) (k := k) (p := plB true 0 [])
  have hf : (putM A j m k (plB true 0 [])).fits (j : Int) p.row = true := by
    have : (putM A j m k (plB true 0 [])).fits (j : Int) p.row = A.fits (j : Int) p.row := rfl
    rw [this]
    unfold StM.fits
    rw [h1]
    simp [hc, hft]
  refine ⟨?_, hgot, hrow, by rw [e1], ?_, ?_⟩
  · cases hr : p.row with
    | nil => rw [hr] at hhd; cases hhd
    | cons x l => rw [hr] at hhd; simpa using hhd
  · rw [e1]
    unfold gotM
    dsimp only
    rw [d2, d1, v1]
    rfl
  · rw [e1]
    dsimp only
    unfold StM.rst
    rw [hf, hkey, d1, v2, hnum, ← hpb]
    have q1 : (putM A j m k (plB true 0 [])).used = A.used := by unfold putM; simp [taken_has hs.2 hkr (.inl hta)]
    have q2 : insM (insM m k (plB true 0 [])) k p = m := by rw [ins_ins]; exact ins_same hs.2 hs.1 hkr hat
    have q4 : A.tabs.set j m = A.tabs := by
      obtain ⟨hjl, hjm⟩ := List.getElem?_eq_some_iff.1 hm
      rw [← hjm]
      exact List.set_getElem_self hjl
    simp only [plB, if_true, Int.toNat_natCast]
    refine Prod.ext ?_ rfl
    show putM (putM A j m k (plB true 0 [])) j (insM m k (plB true 0 [])) k p = A
    have q5 : putM (putM A j m k (plB true 0 [])) j (insM m k (plB true 0 [])) k p = { (putM A j m k (plB true 0 [])) with tabs := (putM A j m k (plB true 0 [])).tabs.set j (insM (insM m k (plB true 0 [])) k p), used := (putM A j m k (plB true 0 [])).used } := by
      unfold putM
      simp [has_ins]
    rw [q5, q1, q2]
    have q6 : (putM A j m k (plB true 0 [])).tabs.set j m = A.tabs := by
      show (A.tabs.set j _).set j m = A.tabs
      rw [List.set_set, q4]
    rw [q6]
    rfl
end
end Go.Proofs.Ytcbklkcpjldcjaa
