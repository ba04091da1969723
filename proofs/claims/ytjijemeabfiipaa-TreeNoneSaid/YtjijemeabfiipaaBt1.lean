/- The tree as data: what a node stands for; frames; a split. -/
import Derived.Test.YtjijemeabfiipaaOrd
import Derived.Test.YtjijemeabfiipaaTree13
import Derived.Test.YtjijemeabfiipaaTree9
namespace Go.Proofs.Ytjijemeabfiipaa
open Go.ChangeShapes Go.WideShapes Go.ChangeAt Go.RowKit
set_option maxRecDepth 100000
set_option linter.unusedSimpArgs false

theorem belowF_spec {ks : List Val} (k : Val) (h : SortedK ks) : ∀ i x, ks[i]? = some x → (i < belowF ks k ↔ valCmp x k ≤ 0) := by
  intro i x hx
  have hs := bsAt_spec k h
  unfold belowF
  cases hb : bsIs ks k
  · simp only [Bool.false_eq_true, if_false, Nat.add_zero]
    rw [hs i x hx]
    constructor
    · intro h; omega
    · intro hle
      by_cases hlt : valCmp x k < 0
      · exact hlt
      · exfalso
        have h0 : valCmp x k = 0 := by omega
        have hi : ¬ i < bsAt ks k := fun h => hlt ((hs i x hx).1 h)
        have hlen := (List.getElem?_eq_some_iff.1 hx).1
        obtain ⟨y, hy⟩ : ∃ y, ks[bsAt ks k]? = some y := ⟨_, List.getElem?_eq_getElem (by omega)⟩
        have hny : ¬ valCmp y k < 0 := fun h => by have := (hs _ y hy).2 h; omega
        by_cases he : bsAt ks k = i
        · rw [he] at hy
          rw [hx] at hy
          cases hy
          have := (bsIs_spec (ks := ks) k).2 ⟨x, by rw [he]; exact hx, h0⟩
          rw [hb] at this; cases this
        · have hyx : valCmp y x < 0 := by
            have := List.pairwise_iff_getElem.1 h (bsAt ks k) i (by omega) hlen (by omega)
            rw [List.getElem?_eq_getElem (by omega)] at hy
            rw [List.getElem?_eq_getElem hlen] at hx
            rw [Option.some.inj hy, Option.some.inj hx] at this
            exact this
          exact hny (lt_le hyx (by omega))
  · simp only [if_true]
    obtain ⟨y, hy, hy0⟩ := (bsIs_spec (ks := ks) k).1 hb
    by_cases he : i = bsAt ks k
    · subst he
      rw [hx] at hy; cases hy
      constructor <;> intro _ <;> omega
    · by_cases hlt : i < bsAt ks k
      · have := (hs i x hx).1 hlt
        constructor <;> intro _ <;> omega
      · have hlen := (List.getElem?_eq_some_iff.1 hx).1
        have hyx : valCmp y x < 0 := by
          have hl2 := (List.getElem?_eq_some_iff.1 hy).1
          have := List.pairwise_iff_getElem.1 h (bsAt ks k) i hl2 hlen (by omega)
          rw [List.getElem?_eq_getElem hl2] at hy
          rw [List.getElem?_eq_getElem hlen] at hx
          rw [Option.some.inj hy, Option.some.inj hx] at this
          exact this
        have : ¬ valCmp x k ≤ 0 := fun h => by have := lt_le hyx h; omega
        constructor <;> intro _ <;> omega

abbrev PL := List (Val × VT)
structure Kid where
  id : Nat
  L : PL
  ids : List Nat
def Fit (nodes : List NodeM) (i : Nat) : Prop := ∃ m, nodes[i]? = some m ∧ 2 ≤ m.size ∧ m.size ≤ 4
def Seps (keys : List Val) (cs : List Kid) : Prop := ∀ j k, keys[j]? = some k → (∀ x ∈ (cs.take (j + 1)).flatMap Kid.L, valCmp x.1 k < 0) ∧ (∀ x ∈ (cs.drop (j + 1)).flatMap Kid.L, valCmp k x.1 ≤ 0)
/-- what a node of depth d stands for, and the nodes that it is made of -/
def Rep (nodes : List NodeM) : Nat → Nat → PL → List Nat → Prop
  | 0, i, L, ids => ∃ m, nodes[i]? = some m ∧ m.leaf = true ∧ m.kids = [] ∧ m.vals.length = m.keys.length ∧ L = m.keys.zip m.vals ∧ ids = [i]
  | d + 1, i, L, ids => ∃ m, nodes[i]? = some m ∧ m.leaf = false ∧ m.vals = [] ∧ ∃ cs : List Kid, m.kids = cs.map Kid.id ∧ cs.length = m.keys.length + 1 ∧ (∀ c ∈ cs, Rep nodes d c.id c.L c.ids ∧ Fit nodes c.id) ∧ Seps m.keys cs ∧ SortedK m.keys ∧ L = cs.flatMap Kid.L ∧ ids = i :: cs.flatMap Kid.ids

theorem Rep.self {nodes : List NodeM} : ∀ {d i : Nat} {L : PL} {ids : List Nat}, Rep nodes d i L ids → i ∈ ids
  | 0, _, _, _, ⟨_, _, _, _, _, _, h⟩ => by rw [h]; simp
  | _ + 1, _, _, _, ⟨_, _, _, _, _, _, _, _, _, _, _, h⟩ => by rw [h]; simp
theorem Rep.node {nodes : List NodeM} : ∀ {d i : Nat} {L : PL} {ids : List Nat}, Rep nodes d i L ids → ∃ m, nodes[i]? = some m
  | 0, _, _, _, ⟨m, h, _⟩ => ⟨m, h⟩
  | _ + 1, _, _, _, ⟨m, h, _⟩ => ⟨m, h⟩
theorem Rep.frame {nodes nodes' : List NodeM} : ∀ {d i : Nat} {L : PL} {ids : List Nat}, Rep nodes d i L ids → (∀ x ∈ ids, nodes'[x]? = nodes[x]?) → Rep nodes' d i L ids
  | 0, i, _, _, ⟨m, h, r⟩, hf => ⟨m, by rw [hf i (by rw [r.2.2.2.2]; simp)]; exact h, r⟩
  | d + 1, i, _, ids, ⟨m, h, h1, h2, cs, h3, h4, h5, h6, h7, h8, h9⟩, hf => by
    refine ⟨m, by rw [hf i (by rw [h9]; simp)]; exact h, h1, h2, cs, h3, h4, fun c hc => ?_, h6, h7, h8, h9⟩
    have hsub : ∀ x ∈ c.ids, nodes'[x]? = nodes[x]? := fun x hx => hf x (by rw [h9]; exact List.mem_cons_of_mem _ (List.mem_flatMap.2 ⟨c, hc, hx⟩))
    obtain ⟨h10, m', h11, h12⟩ := h5 c hc
    exact ⟨h10.frame hsub, m', by rw [hsub c.id h10.self]; exact h11, h12⟩
theorem Fit.frame {nodes nodes' : List NodeM} {i : Nat} (h : Fit nodes i) (hf : nodes'[i]? = nodes[i]?) : Fit nodes' i := by
  obtain ⟨m, h1, h2⟩ := h
  exact ⟨m, by rw [hf]; exact h1, h2⟩
/-- something stands below a node that has anything -/
theorem Rep.some {nodes : List NodeM} : ∀ {d i : Nat} {L : PL} {ids : List Nat}, Rep nodes d i L ids → (∃ m, nodes[i]? = some m ∧ 1 ≤ m.size) → L ≠ []
  | 0, _, _, _, ⟨m, h, h1, h2, h3, h4, _⟩, ⟨m', h', hs⟩ => by
    rw [h] at h'; cases h'
    unfold NodeM.size at hs
    rw [h1, if_pos rfl] at hs
    intro e
    rw [e] at h4
    have := congrArg List.length h4
    simp [List.length_zip, h3] at this
    omega
  | d + 1, _, _, _, ⟨m, h, h1, h2, cs, h3, h4, h5, _, _, h8, _⟩, _ => by
    cases cs with
    | nil => simp at h4
    | cons c cs =>
      obtain ⟨h10, m', h11, h12, _⟩ := h5 c (List.mem_cons_self ..)
      have := Rep.some h10 ⟨m', h11, by omega⟩
      rw [h8]
      simp [this]

/-! ### separators -/
theorem take_mid {α : Type} (A B : List α) (x : α) (n : Nat) : (A ++ x :: B).take n = if n ≤ A.length then A.take n else A ++ x :: B.take (n - A.length - 1) := by
  split
  · rename_i h; rw [List.take_append_of_le_length h]
  · rename_i h
    obtain ⟨q, rfl⟩ : ∃ q, n = A.length + (q + 1) := ⟨n - A.length - 1, by omega⟩
    rw [List.take_length_add_append, List.take_succ_cons, show A.length + (q + 1) - A.length - 1 = q by omega]
theorem drop_mid {α : Type} (A B : List α) (x : α) (n : Nat) : (A ++ x :: B).drop n = if n ≤ A.length then A.drop n ++ x :: B else B.drop (n - A.length - 1) := by
  split
  · rename_i h; rw [List.drop_append_of_le_length h]
  · rename_i h
    obtain ⟨q, rfl⟩ : ∃ q, n = A.length + (q + 1) := ⟨n - A.length - 1, by omega⟩
    rw [List.drop_length_add_append, List.drop_succ_cons, show A.length + (q + 1) - A.length - 1 = q by omega]
/-- one of the nodes below stands for more now -/
theorem Seps.swap {keys : List Val} {A Bs : List Kid} {c0 c1 : Kid} (h : Seps keys (A ++ c0 :: Bs)) {p : Val × VT} (hL : ∀ x ∈ c1.L, x.1 = p.1 ∨ x ∈ c0.L)
    (hp : ∀ j k, keys[j]? = some k → if A.length ≤ j then valCmp p.1 k < 0 else valCmp k p.1 ≤ 0) : Seps keys (A ++ c1 :: Bs) := by
  intro j k hk
  obtain ⟨h1, h2⟩ := h j k hk
  have h3 := hp j k hk
  rw [take_mid] at h1 ⊢
  rw [drop_mid] at h2 ⊢
  by_cases hj : j + 1 ≤ A.length
  · rw [if_pos hj] at h1 h2 ⊢
    rw [if_neg (by omega)] at h3
    rw [if_pos hj]
    refine ⟨h1, fun x hx => ?_⟩
    rw [List.flatMap_append, List.flatMap_cons, List.mem_append, List.mem_append] at hx
    rcases hx with hx | hx | hx
    · exact h2 x (by rw [List.flatMap_append]; exact List.mem_append.2 (.inl hx))
    · rcases hL x hx with e | hx
      · rw [e]; exact h3
      · exact h2 x (by rw [List.flatMap_append, List.flatMap_cons]; exact List.mem_append.2 (.inr (List.mem_append.2 (.inl hx))))
    · exact h2 x (by rw [List.flatMap_append, List.flatMap_cons]; exact List.mem_append.2 (.inr (List.mem_append.2 (.inr hx))))
  · rw [if_neg hj] at h1 h2 ⊢
    rw [if_pos (by omega)] at h3
    rw [if_neg hj]
    refine ⟨fun x hx => ?_, h2⟩
    rw [List.flatMap_append, List.flatMap_cons, List.mem_append, List.mem_append] at hx
    rcases hx with hx | hx | hx
    · exact h1 x (by rw [List.flatMap_append]; exact List.mem_append.2 (.inl hx))
    · rcases hL x hx with e | hx
      · rw [e]; exact h3
      · exact h1 x (by rw [List.flatMap_append, List.flatMap_cons]; exact List.mem_append.2 (.inr (List.mem_append.2 (.inl hx))))
    · exact h1 x (by rw [List.flatMap_append, List.flatMap_cons]; exact List.mem_append.2 (.inr (List.mem_append.2 (.inr hx))))
theorem insAt_get {α : Type} (l : List α) (c : Nat) (x : α) (hc : c ≤ l.length) (j : Nat) : (insAt l c x)[j]? = if j < c then l[j]? else if j = c then some x else l[j - 1]? := by
  unfold insAt
  have hl : (l.take c).length = c := by rw [List.length_take]; omega
  by_cases h1 : j < c
  · rw [if_pos h1, List.getElem?_append_left (by omega), List.getElem?_take, if_pos h1]
  · rw [if_neg h1, List.getElem?_append_right (by omega), hl]
    by_cases h2 : j = c
    · subst h2; simp
    · rw [if_neg h2]
      obtain ⟨q, rfl⟩ : ∃ q, j = c + (q + 1) := ⟨j - c - 1, by omega⟩
      rw [show c + (q + 1) - c = q + 1 by omega, List.getElem?_cons_succ, List.getElem?_drop, show c + (q + 1) - 1 = c + q by omega]
/-- a node below is split in two -/
theorem Seps.split {keys : List Val} {A Bs : List Kid} {c1 k1 k2 : Kid} {sep : Val} (hlen : (A ++ c1 :: Bs).length = keys.length + 1) (h : Seps keys (A ++ c1 :: Bs)) (hs : SortedK keys)
    (hL : c1.L = k1.L ++ k2.L) (h1 : ∀ x ∈ k1.L, valCmp x.1 sep < 0) (h2 : ∀ x ∈ k2.L, valCmp sep x.1 ≤ 0) (hn1 : k1.L ≠ []) (hn2 : k2.L ≠ []) :
    Seps (insAt keys A.length sep) (A ++ k1 :: k2 :: Bs) ∧ SortedK (insAt keys A.length sep) := by
  simp only [List.length_append, List.length_cons] at hlen
  obtain ⟨y, hy⟩ := List.exists_mem_of_ne_nil _ hn1
  obtain ⟨z, hz⟩ := List.exists_mem_of_ne_nil _ hn2
  have lo : ∀ j k, keys[j]? = some k → j < A.length → valCmp k sep < 0 := fun j k hk hj => by
    have := (h j k hk).2 y (by
      rw [drop_mid, if_pos (by omega), List.flatMap_append, List.flatMap_cons, hL]
      simp [hy])
    exact le_lt this (h1 y hy)
  have hi : ∀ j k, keys[j]? = some k → A.length ≤ j → valCmp sep k < 0 := fun j k hk hj => by
    have := (h j k hk).1 z (by
      rw [take_mid, if_neg (by omega), List.flatMap_append, List.flatMap_cons, hL]
      simp [hz])
    exact le_lt (h2 z hz) this
  have hA : ∀ x ∈ A.flatMap Kid.L, valCmp x.1 sep < 0 := fun x hx => by
    by_cases h0 : A.length = 0
    · have : A = [] := List.length_eq_zero_iff.1 h0
      subst this; simp at hx
    · obtain ⟨k, hk⟩ : ∃ k, keys[A.length - 1]? = some k := ⟨_, List.getElem?_eq_getElem (by omega)⟩
      have := (h _ k hk).1 x (by
        rw [take_mid, if_pos (by omega), List.take_of_length_le (by omega)]
        exact hx)
      exact lt_trans' this (lo _ k hk (by omega))
  have hB : ∀ x ∈ Bs.flatMap Kid.L, valCmp sep x.1 ≤ 0 := fun x hx => by
    by_cases h0 : Bs.length = 0
    · have : Bs = [] := List.length_eq_zero_iff.1 h0
      subst this; simp at hx
    · obtain ⟨k, hk⟩ : ∃ k, keys[A.length]? = some k := ⟨_, List.getElem?_eq_getElem (by omega)⟩
      have := (h _ k hk).2 x (by
        rw [drop_mid, if_neg (by omega), show A.length + 1 - A.length - 1 = 0 by omega, List.drop_zero]
        exact hx)
      have h3 := hi _ k hk (Nat.le_refl _)
      have := lt_le h3 this
      omega
  refine ⟨fun j k hk => ?_, ?_⟩
  · rw [insAt_get _ _ _ (by omega)] at hk
    have e3 : A ++ k1 :: k2 :: Bs = (A ++ [k1]) ++ k2 :: Bs := by simp
    by_cases hj : j < A.length
    · rw [if_pos hj] at hk
      obtain ⟨g1, g2⟩ := h j k hk
      rw [take_mid, if_pos (by omega)] at g1 ⊢
      rw [drop_mid, if_pos (by omega)] at g2 ⊢
      refine ⟨g1, fun x hx => g2 x ?_⟩
      simp only [List.flatMap_append, List.flatMap_cons, hL, List.mem_append] at hx ⊢
      rcases hx with hx | hx | hx | hx
      · exact .inl hx
      · exact .inr (.inl (.inl hx))
      · exact .inr (.inl (.inr hx))
      · exact .inr (.inr hx)
    · rw [if_neg hj] at hk
      by_cases hj2 : j = A.length
      · subst hj2
        rw [if_pos rfl] at hk
        cases hk
        rw [take_mid, if_neg (by omega), drop_mid, if_neg (by omega), show A.length + 1 - A.length - 1 = 0 by omega]
        refine ⟨fun x hx => ?_, fun x hx => ?_⟩
        · simp only [List.take_zero, List.flatMap_append, List.flatMap_cons, List.flatMap_nil, List.append_nil, List.mem_append] at hx
          exact hx.elim (hA x) (h1 x)
        · simp only [List.drop_zero, List.flatMap_cons, List.mem_append] at hx
          exact hx.elim (h2 x) (hB x)
      · rw [if_neg hj2] at hk
        obtain ⟨g1, g2⟩ := h (j - 1) k hk
        rw [take_mid, if_neg (by omega)] at g1
        rw [drop_mid, if_neg (by omega)] at g2
        rw [e3, take_mid, if_neg (by simp; omega), drop_mid, if_neg (by simp; omega)]
        simp only [List.length_append, List.length_singleton]
        rw [show j + 1 - (A.length + 1) - 1 = j - 1 + 1 - A.length - 1 by omega]
        refine ⟨fun x hx => g1 x ?_, g2⟩
        simp only [List.flatMap_append, List.flatMap_cons, List.flatMap_nil, List.append_nil, hL, List.mem_append] at hx ⊢
        rcases hx with (hx | hx) | hx | hx
        · exact .inl hx
        · exact .inr (.inl (.inl hx))
        · exact .inr (.inl (.inr hx))
        · exact .inr (.inr hx)
  · unfold SortedK insAt
    have hlt : ∀ a ∈ keys.take A.length, valCmp a sep < 0 := fun a ha => by
      obtain ⟨j, hj⟩ := List.mem_iff_getElem?.1 ha
      rw [List.getElem?_take] at hj
      split at hj
      · rename_i hlt; exact lo j a hj hlt
      · cases hj
    have hgt : ∀ a ∈ keys.drop A.length, valCmp sep a < 0 := fun a ha => by
      obtain ⟨j, hj⟩ := List.mem_iff_getElem?.1 ha
      rw [List.getElem?_drop] at hj
      exact hi _ a hj (by omega)
    rw [List.pairwise_append, List.pairwise_cons]
    refine ⟨hs.sublist (List.take_sublist _ _), ⟨hgt, hs.sublist (List.drop_sublist _ _)⟩, fun a ha b hb => ?_⟩
    rcases List.mem_cons.1 hb with rfl | hb
    · exact hlt a ha
    · exact lt_trans' (hlt a ha) (hgt b hb)
theorem Seps.take {keys : List Val} {cs : List Kid} (h : Seps keys cs) (n : Nat) : Seps (keys.take n) (cs.take (n + 1)) := by
  intro j k hk
  rw [List.getElem?_take] at hk
  split at hk
  · rename_i hj
    obtain ⟨h1, h2⟩ := h j k hk
    rw [List.take_take, show min (j + 1) (n + 1) = j + 1 by omega]
    refine ⟨h1, fun x hx => h2 x ?_⟩
    rw [List.drop_take] at hx
    obtain ⟨c, hc, hx⟩ := List.mem_flatMap.1 hx
    exact List.mem_flatMap.2 ⟨c, List.mem_of_mem_take hc, hx⟩
  · cases hk
theorem Seps.drop {keys : List Val} {cs : List Kid} (h : Seps keys cs) (n : Nat) : Seps (keys.drop n) (cs.drop n) := by
  intro j k hk
  rw [List.getElem?_drop] at hk
  obtain ⟨h1, h2⟩ := h (n + j) k hk
  refine ⟨fun x hx => h1 x ?_, fun x hx => h2 x ?_⟩
  · rw [List.take_drop] at hx
    obtain ⟨c, hc, hx⟩ := List.mem_flatMap.1 hx
    exact List.mem_flatMap.2 ⟨c, by rw [show n + j + 1 = n + (j + 1) by omega]; exact List.mem_of_mem_drop hc, hx⟩
  · rw [List.drop_drop] at hx
    rw [show n + j + 1 = n + (j + 1) by omega]
    exact hx
end Go.Proofs.Ytjijemeabfiipaa
