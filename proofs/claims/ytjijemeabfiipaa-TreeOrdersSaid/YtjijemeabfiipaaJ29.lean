/- The tree as data: in whatever order keys are put. -/
import Derived.Test.YtjijemeabfiipaaJ22
namespace Go.Proofs.Ytjijemeabfiipaa
open Go.ChangeShapes Go.WideShapes Go.ChangeAt Go.RowKit
set_option maxRecDepth 100000
set_option linter.unusedSimpArgs false

theorem mem_put {L : PL} {k : Val} {v : VT} (hr : RightL L) (p : Val × VT) : p ∈ putL L k v ↔ (valRight k = true ∧ p = (k, v)) ∨ (p ∈ L ∧ p.1 ≠ k) := by
  unfold putL
  cases hk : valRight k
  · simp only [Bool.false_eq_true, if_false, false_and, false_or]
    exact ⟨fun h => ⟨h, fun e => by have := hr p h; rw [e, hk] at this; cases this⟩, fun h => h.1⟩
  · simp only [if_true, true_and]
    constructor
    · intro h
      by_cases e : p.1 = k
      · left
        unfold insL at h
        rcases List.mem_append.1 h with hin | hin
        · have := (List.mem_filter.1 hin).2
          rw [e, cmp_self] at this
          simp at this
        · rcases List.mem_cons.1 hin with hin | hin
          · exact hin
          · have := (List.mem_filter.1 hin).2
            rw [e, cmp_self] at this
            simp at this
      · rcases mem_insL h with h | h
        · rw [h] at e; exact absurd rfl e
        · exact .inr ⟨h, e⟩
    · rintro (rfl | ⟨h, hne⟩)
      · exact insL_self L k v
      · exact insL_keep h (fun e => hne (cmp_eq (hr p h) hk e))
theorem mem_rem {L : PL} {k : Val} (hr : RightL L) (p : Val × VT) : p ∈ remL L k ↔ p ∈ L ∧ p.1 ≠ k := by
  unfold remL
  cases hk : valRight k
  · simp only [Bool.false_eq_true, if_false]
    exact ⟨fun h => ⟨h, fun e => by have := hr p h; rw [e, hk] at this; cases this⟩, fun h => h.1⟩
  · simp only [if_true]
    unfold delL
    rw [List.mem_filter]
    constructor
    · rintro ⟨h, h2⟩
      refine ⟨h, fun e => ?_⟩
      rw [e, cmp_self] at h2
      simp at h2
    · rintro ⟨h, h2⟩
      refine ⟨h, ?_⟩
      simp only [Bool.not_eq_true', decide_eq_false_iff_not]
      exact fun e => h2 (cmp_eq (hr p h) hk e)
theorem sorted_ext : ∀ {L L' : PL}, SortedL L → SortedL L' → (∀ p, p ∈ L ↔ p ∈ L') → L = L'
  | [], [], _, _, _ => rfl
  | [], y :: L', _, _, h => absurd ((h y).2 (List.mem_cons_self ..)) (by simp)
  | x :: L, [], _, _, h => absurd ((h x).1 (List.mem_cons_self ..)) (by simp)
  | x :: L, y :: L', hs, hs', h => by
    obtain ⟨h1, h2⟩ := List.pairwise_cons.1 hs
    obtain ⟨h3, h4⟩ := List.pairwise_cons.1 hs'
    have exy : x = y := by
      rcases List.mem_cons.1 ((h x).1 (List.mem_cons_self ..)) with e | hx
      · exact e
      · rcases List.mem_cons.1 ((h y).2 (List.mem_cons_self ..)) with e | hy
        · exact e.symm
        · have a := h3 x hx
          have b := h1 y hy
          have c := lt_trans' a b
          rw [cmp_self] at c
          omega
    subst exy
    congr 1
    refine sorted_ext h2 h4 (fun p => ⟨fun hp => ?_, fun hp => ?_⟩)
    · rcases List.mem_cons.1 ((h p).1 (List.mem_cons_of_mem _ hp)) with e | hp'
      · have := h1 p hp
        rw [e, cmp_self] at this
        omega
      · exact hp'
    · rcases List.mem_cons.1 ((h p).2 (List.mem_cons_of_mem _ hp)) with e | hp'
      · have := h3 p hp
        rw [e, cmp_self] at this
        omega
      · exact hp'

/-- those of some keys that may be, each with 1 -/
def Ones (S : List Val) (L : PL) : Prop := ∀ p, p ∈ L ↔ p.2 = 1 ∧ valRight p.1 = true ∧ p.1 ∈ S
theorem Ones.put {S S' : List Val} {L : PL} {k : Val} (hr : RightL L) (h : Ones S L) (hS : ∀ x, x ∈ S' ↔ x ∈ S ∨ x = k) : Ones S' (putL L k 1) := by
  intro p
  rw [mem_put hr, h p, hS]
  constructor
  · rintro (⟨h1, rfl⟩ | ⟨⟨h1, h2, h3⟩, h4⟩)
    · exact ⟨rfl, h1, .inr rfl⟩
    · exact ⟨h1, h2, .inl h3⟩
  · rintro ⟨h1, h2, h3⟩
    by_cases e : p.1 = k
    · refine .inl ⟨by rw [← e]; exact h2, ?_⟩
      rw [← e, ← h1]
    · rcases h3 with h3 | h3
      · exact .inr ⟨⟨h1, h2, h3⟩, e⟩
      · exact absurd h3 e
/-- and others beside them with 2 -/
def Twos (S M : List Val) (L : PL) : Prop := ∀ p, p ∈ L ↔ valRight p.1 = true ∧ ((p.2 = 1 ∧ p.1 ∈ S) ∨ (p.2 = 2 ∧ p.1 ∉ S ∧ p.1 ∈ M))
theorem Ones.twos {S : List Val} {L : PL} (h : Ones S L) : Twos S [] L := by
  intro p
  rw [h p]
  constructor
  · rintro ⟨h1, h2, h3⟩; exact ⟨h2, .inl ⟨h1, h3⟩⟩
  · rintro ⟨h2, ⟨h1, h3⟩ | ⟨_, _, h⟩⟩
    · exact ⟨h1, h2, h3⟩
    · simp at h
theorem Twos.ones {S M : List Val} {L : PL} (h : Twos S M L) (hM : ∀ x ∈ M, x ∈ S) : Ones S L := by
  intro p
  rw [h p]
  constructor
  · rintro ⟨h2, ⟨h1, h3⟩ | ⟨_, h3, h4⟩⟩
    · exact ⟨h1, h2, h3⟩
    · exact absurd (hM _ h4) h3
  · rintro ⟨h1, h2, h3⟩; exact ⟨h2, .inl ⟨h1, h3⟩⟩
theorem Twos.skip {S M M' : List Val} {L : PL} (h : Twos S M L) (hM : ∀ x, x ∉ S → (x ∈ M' ↔ x ∈ M)) : Twos S M' L := by
  intro p
  rw [h p]
  refine and_congr_right (fun _ => or_congr_right (and_congr_right (fun _ => and_congr_right (fun hn => (hM _ hn).symm))))
theorem Twos.put {S M M' : List Val} {L : PL} {k : Val} (hr : RightL L) (h : Twos S M L) (hk : k ∉ S) (hM : ∀ x, x ∈ M' ↔ x ∈ M ∨ x = k) : Twos S M' (putL L k 2) := by
  intro p
  rw [mem_put hr, h p, hM]
  constructor
  · rintro (⟨h1, rfl⟩ | ⟨⟨h1, h2⟩, h4⟩)
    · exact ⟨h1, .inr ⟨rfl, hk, .inr rfl⟩⟩
    · exact ⟨h1, h2.imp (fun h => h) (fun h => ⟨h.1, h.2.1, .inl h.2.2⟩)⟩
  · rintro ⟨h1, h2⟩
    by_cases e : p.1 = k
    · rcases h2 with ⟨_, h2⟩ | ⟨h2, _⟩
      · rw [e] at h2; exact absurd h2 hk
      · refine .inl ⟨by rw [← e]; exact h1, ?_⟩
        rw [← e, ← h2]
    · refine .inr ⟨⟨h1, ?_⟩, e⟩
      rcases h2 with h2 | ⟨h2, h3, h4⟩
      · exact .inl h2
      · rcases h4 with h4 | h4
        · exact .inr ⟨h2, h3, h4⟩
        · exact absurd h4 e
theorem Twos.rem {S M M' : List Val} {L : PL} {k : Val} (hr : RightL L) (h : Twos S M L) (hk : k ∉ S) (hM : ∀ x, x ∈ M' ↔ x ∈ M ∧ x ≠ k) : Twos S M' (remL L k) := by
  intro p
  rw [mem_rem hr, h p, hM]
  constructor
  · rintro ⟨⟨h1, h2⟩, h4⟩
    exact ⟨h1, h2.imp (fun h => h) (fun h => ⟨h.1, h.2.1, h.2.2, h4⟩)⟩
  · rintro ⟨h1, h2 | ⟨h2, h3, h4, h5⟩⟩
    · exact ⟨⟨h1, .inl h2⟩, fun e => by rw [e] at h2; exact hk h2.2⟩
    · exact ⟨⟨h1, .inr ⟨h2, h3, h4⟩⟩, h5⟩
/-- those behind i that aren't among the first -/
def rest (m : List Val) (i : Nat) : List Val := m.filter (fun x => decide (x ∉ m.take i))
theorem rest_0 (m : List Val) : rest m 0 = m := by unfold rest; simp
theorem rest_end (m : List Val) (x : Val) : x ∉ rest m m.length := by unfold rest; simp
theorem rest_next {m : List Val} {i : Nat} {k : Val} (h : m[i]? = some k) (x : Val) : x ∈ rest m (i + 1) ↔ x ∈ rest m i ∧ x ≠ k := by
  unfold rest
  rw [List.mem_filter, List.mem_filter, List.take_add_one, h]
  simp
  exact ⟨fun ⟨a, b, c⟩ => ⟨⟨a, b⟩, c⟩, fun ⟨⟨a, b⟩, c⟩ => ⟨a, b, c⟩⟩
end Go.Proofs.Ytjijemeabfiipaa
