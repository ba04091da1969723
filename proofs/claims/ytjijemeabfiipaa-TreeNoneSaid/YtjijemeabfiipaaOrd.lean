/- The order of values: total; binary search by it. -/
import Derived.Test.YtjijemeabfiipaaSpan
namespace Go.Proofs.Ytjijemeabfiipaa
open Go.ChangeShapes Go.WideShapes Go.ChangeAt Go.RowKit
set_option maxRecDepth 100000
set_option linter.unusedSimpArgs false

theorem bl_asymm : ∀ (x y : List UInt8), Op.bytesLess x y = true → Op.bytesLess y x = false
  | _, [], h => by simp [Op.bytesLess] at h
  | [], _ :: _, _ => by simp [Op.bytesLess]
  | a :: x, b :: y, h => by
    simp only [Op.bytesLess, Bool.or_eq_true, Bool.and_eq_true, decide_eq_true_eq, beq_iff_eq] at h
    simp only [Op.bytesLess, Bool.or_eq_false_iff, Bool.and_eq_false_iff, decide_eq_false_iff_not, beq_eq_false_iff_ne]
    rw [UInt8.lt_iff_toNat_lt] at *
    rcases h with h | ⟨rfl, h⟩
    · exact ⟨by omega, .inl (fun e => by subst e; omega)⟩
    · exact ⟨by omega, .inr (bl_asymm x y h)⟩
theorem bl_total : ∀ (x y : List UInt8), Op.bytesLess x y = false → Op.bytesLess y x = false → x = y
  | [], [], _, _ => rfl
  | [], _ :: _, h, _ => by simp [Op.bytesLess] at h
  | _ :: _, [], _, h => by simp [Op.bytesLess] at h
  | a :: x, b :: y, h, h' => by
    simp only [Op.bytesLess, Bool.or_eq_false_iff, Bool.and_eq_false_iff, decide_eq_false_iff_not, beq_eq_false_iff_ne] at h h'
    rw [UInt8.lt_iff_toNat_lt] at *
    obtain rfl : a = b := UInt8.toNat_inj.1 (by omega)
    rcases h.2 with h2 | h2
    · exact absurd rfl h2
    · rcases h'.2 with h3 | h3
      · exact absurd rfl h3
      · rw [bl_total x y h2 h3]
theorem bl_trans : ∀ (x y z : List UInt8), Op.bytesLess x y = true → Op.bytesLess y z = true → Op.bytesLess x z = true
  | _, [], _, h, _ => by simp [Op.bytesLess] at h
  | _, _ :: _, [], _, h => by simp [Op.bytesLess] at h
  | [], _ :: _, _ :: _, _, _ => by simp [Op.bytesLess]
  | a :: x, b :: y, c :: z, h, h' => by
    simp only [Op.bytesLess, Bool.or_eq_true, Bool.and_eq_true, decide_eq_true_eq, beq_iff_eq] at h h' ⊢
    rw [UInt8.lt_iff_toNat_lt] at *
    rcases h with h | ⟨rfl, h⟩
    · rcases h' with h' | ⟨rfl, h'⟩
      · exact .inl (by omega)
      · exact .inl h
    · rcases h' with h' | ⟨rfl, h'⟩
      · exact .inl h'
      · exact .inr ⟨rfl, bl_trans x y z h h'⟩

theorem cmpS_swap (a b : ByteArray) : cmpS b a = - cmpS a b := by
  unfold cmpS
  cases h1 : Op.bytesLess a.toList b.toList
  · cases h2 : Op.bytesLess b.toList a.toList
    · have := bl_total _ _ h1 h2
      simp [this]
    · have : ¬ (a.toList == b.toList) = true := fun e => by
        have := eq_of_beq e
        rw [this] at h1 h2
        rw [h1] at h2; cases h2
      simp [this]
  · have h2 := bl_asymm _ _ h1
    have : ¬ (b.toList == a.toList) = true := fun e => by
      have := eq_of_beq e
      rw [this] at h1 h2
      rw [h1] at h2; cases h2
    simp [h2, this]
theorem cmpS_le {a b : ByteArray} : cmpS a b ≤ 0 ↔ Op.bytesLess b.toList a.toList = false := by
  unfold cmpS
  cases h1 : Op.bytesLess a.toList b.toList
  · by_cases h2 : (a.toList == b.toList) = true
    · have := eq_of_beq h2
      rw [this] at h1
      simp [h2, this, h1]
    · simp only [Bool.false_eq_true, if_false, h2]
      constructor
      · intro h; omega
      · intro h; exact absurd (bl_total _ _ h1 h) (fun e => h2 (by simp [e]))
  · simp [bl_asymm _ _ h1]
theorem cmpS_trans {a b c : ByteArray} (h : cmpS a b ≤ 0) (h' : cmpS b c ≤ 0) : cmpS a c ≤ 0 := by
  rw [cmpS_le] at *
  cases h3 : Op.bytesLess c.toList a.toList with
  | false => rfl
  | true =>
    cases h4 : Op.bytesLess a.toList b.toList with
    | true => rw [bl_trans _ _ _ h3 h4] at h'; cases h'
    | false =>
      have := bl_total _ _ h4 h
      rw [this] at h3
      rw [h3] at h'; cases h'
theorem cmpS_eq {a b : ByteArray} (h : cmpS a b = 0) : a = b := by
  have h1 : Op.bytesLess b.toList a.toList = false := cmpS_le.1 (by omega)
  have h2 : Op.bytesLess a.toList b.toList = false := cmpS_le.1 (by rw [cmpS_swap]; omega)
  have h3 := bl_total _ _ h2 h1
  have := toList_beq a b
  rw [h3] at this
  simpa using this

theorem cmp_swap (a b : Val) : valCmp b a = - valCmp a b := by
  obtain ⟨at_, an, as_⟩ := a
  obtain ⟨bt, bn, bs⟩ := b
  cases at_ <;> cases bt <;> simp [valCmp, cmpS_swap as_ bs]
  unfold cmpI
  repeat' split
  all_goals omega
theorem cmp_self (a : Val) : valCmp a a = 0 := by have := cmp_swap a a; omega
theorem le_trans' {a b c : Val} (h : valCmp a b ≤ 0) (h' : valCmp b c ≤ 0) : valCmp a c ≤ 0 := by
  obtain ⟨at_, an, as_⟩ := a
  obtain ⟨bt, bn, bs⟩ := b
  obtain ⟨ct, cn, cs⟩ := c
  cases at_ <;> cases bt <;> cases ct <;> simp [valCmp] at h h' ⊢
  · unfold cmpI at *
    repeat' split at h
    all_goals repeat' split at h'
    all_goals repeat' split
    all_goals omega
  · exact cmpS_trans h h'
theorem le_lt {a b c : Val} (h : valCmp a b ≤ 0) (h' : valCmp b c < 0) : valCmp a c < 0 := by
  by_cases h3 : valCmp a c < 0
  · exact h3
  · have h4 : valCmp c a ≤ 0 := by rw [cmp_swap]; omega
    have h5 := le_trans' h4 h
    rw [cmp_swap] at h5; omega
theorem lt_le {a b c : Val} (h : valCmp a b < 0) (h' : valCmp b c ≤ 0) : valCmp a c < 0 := by
  by_cases h3 : valCmp a c < 0
  · exact h3
  · have h4 : valCmp c a ≤ 0 := by rw [cmp_swap]; omega
    have h5 := le_trans' h' h4
    rw [cmp_swap] at h5; omega
theorem lt_trans' {a b c : Val} (h : valCmp a b < 0) (h' : valCmp b c < 0) : valCmp a c < 0 := le_lt (by omega) h'
theorem gt_iff (a b : Val) : valCmp a b > 0 ↔ valCmp b a < 0 := by rw [cmp_swap a b]; omega
theorem cmp_eq {a b : Val} (ha : valRight a = true) (hb : valRight b = true) (h : valCmp a b = 0) : a = b := by
  obtain ⟨at_, an, as_⟩ := a
  obtain ⟨bt, bn, bs⟩ := b
  cases at_ <;> cases bt <;> simp [valCmp, valRight] at h ha hb ⊢
  · refine ⟨?_, by rw [ha, hb]⟩
    unfold cmpI at h
    repeat' split at h
    all_goals omega
  · exact ⟨by omega, cmpS_eq h⟩

/-! ### binary search -/
theorem bsF_at {cmp : Nat → Int} {n p : Nat} (h1 : ∀ i, i < p → cmp i < 0) (h2 : ∀ i, p ≤ i → i < n → ¬ cmp i < 0) : ∀ (i j : Nat), i ≤ p → p ≤ j → j ≤ n → bsF cmp i j = p
  | i, j, hi, hj, hn => by
    by_cases h : i < j
    · rw [bsF_lt h]
      split
      · rename_i hc
        exact bsF_at h1 h2 _ _ (by
          by_cases hq : (i + j) / 2 + 1 ≤ p
          · exact hq
          · exact absurd hc (h2 _ (by omega) (by omega))) hj hn
      · rename_i hc
        exact bsF_at h1 h2 _ _ hi (by
          by_cases hq : p ≤ (i + j) / 2
          · exact hq
          · exact absurd (h1 _ (by omega)) hc) (by omega)
    · rw [bsF_ge h]; omega
termination_by i j => j - i

abbrev SortedK (ks : List Val) : Prop := ks.Pairwise (fun a b => valCmp a b < 0)
theorem keyAt_get {keys : List Val} {h : Nat} {x : Val} (k : Val) (hx : keys[h]? = some x) : keyAt keys k h = valCmp x k := keyAt_eq k hx
/-- sorted keys part in two at any value -/
theorem sorted_part (k : Val) : ∀ {ks : List Val}, SortedK ks → ∃ p, p ≤ ks.length ∧ (∀ i x, ks[i]? = some x → (i < p ↔ valCmp x k < 0))
  | [], _ => ⟨0, Nat.le_refl _, fun i x h => by simp at h⟩
  | a :: ks, h => by
    obtain ⟨p, hp, hx⟩ := sorted_part k (List.pairwise_cons.1 h).2
    by_cases ha : valCmp a k < 0
    · refine ⟨p + 1, by simpa using hp, fun i x hi => ?_⟩
      cases i with
      | zero => simp at hi; subst hi; simp [ha]
      | succ i => have := hx i x (by simpa using hi); omega
    · refine ⟨0, Nat.zero_le _, fun i x hi => ?_⟩
      cases i with
      | zero => simp at hi; subst hi; simp [ha]
      | succ i =>
        have h1 := (List.pairwise_cons.1 h).1 x (List.mem_of_getElem? (by simpa using hi))
        have : ¬ valCmp x k < 0 := fun h2 => ha (lt_trans' h1 h2)
        simp [this]
theorem bsAt_spec {ks : List Val} (k : Val) (h : SortedK ks) : ∀ i x, ks[i]? = some x → (i < bsAt ks k ↔ valCmp x k < 0) := by
  obtain ⟨p, hp, hx⟩ := sorted_part k h
  have e : bsAt ks k = p := by
    refine bsF_at (n := ks.length) (fun i hi => ?_) (fun i hi hn => ?_) 0 ks.length (Nat.zero_le _) hp (Nat.le_refl _)
    · obtain ⟨x, hxx⟩ : ∃ x, ks[i]? = some x := ⟨_, List.getElem?_eq_getElem (by omega)⟩
      rw [keyAt_get k hxx]
      exact (hx i x hxx).1 hi
    · obtain ⟨x, hxx⟩ : ∃ x, ks[i]? = some x := ⟨_, List.getElem?_eq_getElem (by omega)⟩
      rw [keyAt_get k hxx]
      exact fun hc => by have := (hx i x hxx).2 hc; omega
  rw [e]
  exact hx
theorem bsAt_len (ks : List Val) (k : Val) : bsAt ks k ≤ ks.length := (bsF_le (keyAt ks k) 0 ks.length (Nat.zero_le _)).2
theorem bsIs_spec {ks : List Val} (k : Val) : bsIs ks k = true ↔ ∃ x, ks[bsAt ks k]? = some x ∧ valCmp x k = 0 := by
  unfold bsIs
  simp only [Bool.and_eq_true, decide_eq_true_eq]
  constructor
  · rintro ⟨h1, h2⟩
    exact ⟨_, List.getElem?_eq_getElem h1, by rw [← h2, keyAt_get k (List.getElem?_eq_getElem h1)]⟩
  · rintro ⟨x, h1, h2⟩
    exact ⟨(List.getElem?_eq_some_iff.1 h1).1, by rw [keyAt_get k h1]; exact h2⟩
end Go.Proofs.Ytjijemeabfiipaa
