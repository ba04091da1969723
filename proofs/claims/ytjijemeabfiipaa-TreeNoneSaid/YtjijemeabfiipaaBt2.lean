/- The tree as data: put. -/
import Derived.Test.YtjijemeabfiipaaBt1
namespace Go.Proofs.Ytjijemeabfiipaa
open Go.ChangeShapes Go.WideShapes Go.ChangeAt Go.RowKit
set_option maxRecDepth 100000
set_option linter.unusedSimpArgs false

abbrev SortedL (L : PL) : Prop := L.Pairwise (fun a b => valCmp a.1 b.1 < 0)
def RightL (L : PL) : Prop := ∀ p ∈ L, valRight p.1 = true
def hasK (L : PL) (k : Val) : Bool := L.any (fun p => decide (valCmp p.1 k = 0))
/-- what is put at a key -/
def insL (L : PL) (k : Val) (v : VT) : PL := L.filter (fun p => decide (valCmp p.1 k < 0)) ++ (k, v) :: L.filter (fun p => decide (0 < valCmp p.1 k))

theorem filter_all {α : Type} {p : α → Bool} {l : List α} (h : ∀ x ∈ l, p x = true) : l.filter p = l := List.filter_eq_self.2 h
theorem filter_none {α : Type} {p : α → Bool} {l : List α} (h : ∀ x ∈ l, p x = false) : l.filter p = [] := List.filter_eq_nil_iff.2 (fun x hx => by rw [h x hx]; simp)
theorem insL_mid {A M Bs : PL} {k : Val} {v : VT} (hA : ∀ x ∈ A, valCmp x.1 k < 0) (hB : ∀ x ∈ Bs, valCmp k x.1 < 0) : insL (A ++ M ++ Bs) k v = A ++ insL M k v ++ Bs := by
  have hB' : ∀ x ∈ Bs, 0 < valCmp x.1 k := fun x hx => (gt_iff _ _).2 (hB x hx)
  unfold insL
  simp only [List.filter_append]
  rw [filter_all (l := A) (fun x hx => by simpa using hA x hx), filter_none (l := A) (fun x hx => by have := hA x hx; simp; omega), filter_none (l := Bs) (fun x hx => by have := hB' x hx; simp; omega), filter_all (l := Bs) (fun x hx => by simpa using hB' x hx)]
  simp
theorem hasK_mid {A M Bs : PL} {k : Val} (hA : ∀ x ∈ A, valCmp x.1 k < 0) (hB : ∀ x ∈ Bs, valCmp k x.1 < 0) : hasK (A ++ M ++ Bs) k = hasK M k := by
  unfold hasK
  rw [List.any_append, List.any_append]
  have h1 : A.any (fun p => decide (valCmp p.1 k = 0)) = false := List.any_eq_false.2 (fun x hx => by have := hA x hx; simp; omega)
  have h2 : Bs.any (fun p => decide (valCmp p.1 k = 0)) = false := List.any_eq_false.2 (fun x hx => by have := (gt_iff _ _).2 (hB x hx); simp; omega)
  rw [h1, h2]; simp
theorem insL_at {A Bs M : PL} {k : Val} {v : VT} (hA : ∀ x ∈ A, valCmp x.1 k < 0) (hM : ∀ x ∈ M, valCmp x.1 k = 0) (hB : ∀ x ∈ Bs, valCmp k x.1 < 0) : insL (A ++ M ++ Bs) k v = A ++ (k, v) :: Bs := by
  rw [insL_mid hA hB]
  unfold insL
  rw [filter_none (l := M) (fun x hx => by have := hM x hx; simp; omega), filter_none (l := M) (fun x hx => by have := hM x hx; simp; omega)]
  simp
theorem mem_insL {L : PL} {k : Val} {v : VT} {x : Val × VT} (h : x ∈ insL L k v) : x = (k, v) ∨ x ∈ L := by
  unfold insL at h
  rcases List.mem_append.1 h with h | h
  · exact .inr (List.mem_filter.1 h).1
  · rcases List.mem_cons.1 h with h | h
    · exact .inl h
    · exact .inr (List.mem_filter.1 h).1
theorem insL_sorted {L : PL} {k : Val} {v : VT} (h : SortedL L) : SortedL (insL L k v) := by
  unfold insL SortedL
  rw [List.pairwise_append, List.pairwise_cons]
  refine ⟨List.Pairwise.filter _ h, ⟨fun a ha => ?_, List.Pairwise.filter _ h⟩, fun a ha b hb => ?_⟩
  · have := (List.mem_filter.1 ha).2
    exact (gt_iff _ _).1 (by simpa using this)
  · have h1 : valCmp a.1 k < 0 := by simpa using (List.mem_filter.1 ha).2
    rcases List.mem_cons.1 hb with rfl | hb
    · exact h1
    · have h2 : valCmp k b.1 < 0 := (gt_iff _ _).1 (by simpa using (List.mem_filter.1 hb).2)
      exact lt_trans' h1 h2
theorem insL_right {L : PL} {k : Val} {v : VT} (hk : valRight k = true) (h : RightL L) : RightL (insL L k v) := fun x hx => by
  rcases mem_insL hx with rfl | hx
  · exact hk
  · exact h x hx

/-! ### a row of keys beside a row of what stands there -/
theorem zip_set {α β : Type} : ∀ (xs : List α) (ys : List β) (i : Nat) (x : α) (y : β), xs[i]? = some x → (xs.zip (ys.set i y)) = (xs.zip ys).set i (x, y)
  | [], _, _, _, _, h => by simp at h
  | _ :: _, [], _, _, _, _ => by simp
  | a :: xs, b :: ys, 0, x, y, h => by simp at h; subst h; simp
  | a :: xs, b :: ys, i + 1, x, y, h => by simp [zip_set xs ys i x y (by simpa using h)]
theorem zip_take {α β : Type} : ∀ (xs : List α) (ys : List β) (n : Nat), (xs.take n).zip (ys.take n) = (xs.zip ys).take n
  | _, _, 0 => by simp
  | [], _, _ + 1 => by simp
  | _ :: _, [], _ + 1 => by simp
  | a :: xs, b :: ys, n + 1 => by simp [zip_take xs ys n]
theorem zip_drop {α β : Type} : ∀ (xs : List α) (ys : List β) (n : Nat), (xs.drop n).zip (ys.drop n) = (xs.zip ys).drop n
  | _, _, 0 => by simp
  | [], _, _ + 1 => by simp
  | _ :: _, [], _ + 1 => by simp
  | a :: xs, b :: ys, n + 1 => by simp [zip_drop xs ys n]
theorem zip_insAt {α β : Type} (xs : List α) (ys : List β) (n : Nat) (x : α) (y : β) (h : ys.length = xs.length) : (insAt xs n x).zip (insAt ys n y) = (xs.zip ys).take n ++ (x, y) :: (xs.zip ys).drop n := by
  unfold insAt
  rw [List.zip_append (by simp [h]), List.zip_cons_cons, zip_take, zip_drop]
theorem zip_keys {xs : List Val} {ys : List VT} (h : ys.length = xs.length) : (xs.zip ys).map Prod.fst = xs := List.map_fst_zip (by omega)
theorem zip_get {xs : List Val} {ys : List VT} {j : Nat} {p : Val × VT} (h : (xs.zip ys)[j]? = some p) : xs[j]? = some p.1 := (List.getElem?_zip_eq_some.1 h).1
theorem sortedK_of {xs : List Val} {ys : List VT} (hl : ys.length = xs.length) (h : SortedL (xs.zip ys)) : SortedK xs := by
  rw [← zip_keys hl]
  exact List.pairwise_map.2 h
theorem mem_take_get {α : Type} {l : List α} {n : Nat} {P : α → Prop} (h : ∀ j x, l[j]? = some x → j < n → P x) : ∀ x ∈ l.take n, P x := fun x hx => by
  obtain ⟨j, hj⟩ := List.mem_iff_getElem?.1 hx
  rw [List.getElem?_take] at hj
  split at hj
  · exact h j x hj (by assumption)
  · cases hj
theorem mem_drop_get {α : Type} {l : List α} {n : Nat} {P : α → Prop} (h : ∀ j x, l[j]? = some x → n ≤ j → P x) : ∀ x ∈ l.drop n, P x := fun x hx => by
  obtain ⟨j, hj⟩ := List.mem_iff_getElem?.1 hx
  rw [List.getElem?_drop] at hj
  exact h _ x hj (by omega)

/-- a leaf: what is put there -/
theorem leaf_found {xs : List Val} {ys : List VT} {k : Val} {v : VT} (hl : ys.length = xs.length) (hs : SortedL (xs.zip ys)) (hr : RightL (xs.zip ys)) (hk : valRight k = true) (h : bsIs xs k = true) :
    xs.zip (ys.set (bsAt xs k) v) = insL (xs.zip ys) k v ∧ hasK (xs.zip ys) k = true := by
  have hsk := sortedK_of hl hs
  obtain ⟨x, hx, hx0⟩ := (bsIs_spec (ks := xs) k).1 h
  have hlt := (List.getElem?_eq_some_iff.1 hx).1
  obtain ⟨y, hy⟩ : ∃ y, ys[bsAt xs k]? = some y := ⟨_, List.getElem?_eq_getElem (by omega)⟩
  have hz : (xs.zip ys)[bsAt xs k]? = some (x, y) := List.getElem?_zip_eq_some.2 ⟨hx, hy⟩
  obtain rfl : x = k := cmp_eq (hr _ (List.mem_of_getElem? hz)) hk hx0
  have hzl : bsAt xs x < (xs.zip ys).length := (List.getElem?_eq_some_iff.1 hz).1
  have e1 : xs.zip ys = (xs.zip ys).take (bsAt xs x) ++ [(x, y)] ++ (xs.zip ys).drop (bsAt xs x + 1) := by
    have := List.take_append_drop (bsAt xs x) (xs.zip ys)
    rw [List.drop_eq_getElem_cons hzl] at this
    rw [List.getElem?_eq_getElem hzl] at hz
    rw [Option.some.inj hz] at this
    rw [List.append_assoc]
    exact this.symm
  have hA : ∀ p ∈ (xs.zip ys).take (bsAt xs x), valCmp p.1 x < 0 := mem_take_get (fun j p hj hlt => (bsAt_spec x hsk j p.1 (zip_get hj)).1 hlt)
  have hB : ∀ p ∈ (xs.zip ys).drop (bsAt xs x + 1), valCmp x p.1 < 0 := mem_drop_get (fun j p hj hge => by
    have h1 := zip_get hj
    have hjl := (List.getElem?_eq_some_iff.1 h1).1
    have := List.pairwise_iff_getElem.1 hsk (bsAt xs x) j hlt hjl (by omega)
    rw [List.getElem?_eq_getElem hlt] at hx
    rw [List.getElem?_eq_getElem hjl] at h1
    rw [Option.some.inj hx, Option.some.inj h1] at this
    exact this)
  refine ⟨?_, ?_⟩
  · rw [zip_set _ _ _ _ _ hx]
    conv => rhs; rw [e1]
    rw [insL_at hA (fun p hp => by simp at hp; subst hp; exact cmp_self _) hB, List.set_eq_take_append_cons_drop, if_pos hzl]
  · unfold hasK
    exact List.any_eq_true.2 ⟨_, List.mem_of_getElem? hz, by simp [cmp_self]⟩
theorem leaf_fresh {xs : List Val} {ys : List VT} {k : Val} {v : VT} (hl : ys.length = xs.length) (hs : SortedL (xs.zip ys)) (h : bsIs xs k = false) :
    (insAt xs (bsAt xs k) k).zip (insAt ys (bsAt xs k) v) = insL (xs.zip ys) k v ∧ hasK (xs.zip ys) k = false := by
  have hsk := sortedK_of hl hs
  have hA : ∀ p ∈ (xs.zip ys).take (bsAt xs k), valCmp p.1 k < 0 := mem_take_get (fun j p hj hlt => (bsAt_spec k hsk j p.1 (zip_get hj)).1 hlt)
  have hB : ∀ p ∈ (xs.zip ys).drop (bsAt xs k), valCmp k p.1 < 0 := mem_drop_get (fun j p hj hge => by
    have h1 := zip_get hj
    have h2 : ¬ valCmp p.1 k < 0 := fun hc => by have := (bsAt_spec k hsk j p.1 h1).2 hc; omega
    have h3 : ¬ j < belowF xs k := by unfold belowF; rw [h]; simp; omega
    have h4 : ¬ valCmp p.1 k ≤ 0 := fun hc => h3 ((belowF_spec k hsk j p.1 h1).2 hc)
    exact (gt_iff _ _).1 (by omega))
  have e1 : xs.zip ys = (xs.zip ys).take (bsAt xs k) ++ [] ++ (xs.zip ys).drop (bsAt xs k) := by simp
  refine ⟨?_, ?_⟩
  · rw [zip_insAt _ _ _ _ _ hl]
    conv => rhs; rw [e1]
    rw [insL_at hA (fun p hp => by simp at hp) hB]
  · rw [e1, hasK_mid hA hB]; rfl

/-! ### a split -/
theorem slot_law {T : TM} {b : Bool} {xs : List Nat} (hp : (xs ++ T.free).Perm (List.range T.nodes.length)) :
    ((T.slot b).1 :: xs ++ (T.slot b).2.free).Perm (List.range (T.slot b).2.nodes.length) ∧ (∀ x ∈ xs, (T.slot b).2.nodes[x]? = T.nodes[x]?) ∧ (T.slot b).1 ∉ xs ∧ (T.slot b).2.nodes.length ≤ T.nodes.length + 1 ∧ ((T.slot b).2.nodes.length = T.nodes.length ∨ (T.slot b).2.free = []) ∧ (∀ x, T.free.getLast? = some x → x < T.nodes.length ∧ x ∉ xs) ∧ (T.slot b).1 < (T.slot b).2.nodes.length ∧ T.free.length ≤ T.nodes.length ∧ (∀ x ∈ xs, x < T.nodes.length) := by
  have hmem : ∀ x ∈ xs ++ T.free, x < T.nodes.length := fun x hx => List.mem_range.1 (hp.mem_iff.1 hx)
  have hnd : (xs ++ T.free).Nodup := hp.nodup_iff.2 List.nodup_range
  have hfl : T.free.length ≤ T.nodes.length := by
    have := hp.length_eq
    simp at this; omega
  have hlast : ∀ x, T.free.getLast? = some x → x < T.nodes.length ∧ x ∉ xs := fun x hx => by
    have hm : x ∈ T.free := List.mem_of_getLast? hx
    exact ⟨hmem x (List.mem_append.2 (.inr hm)), fun hxs => (List.nodup_append.1 hnd).2.2 x hxs x hm rfl⟩
  refine ⟨?_, ?_, ?_, ?_, ?_, hlast, ?_, hfl, fun x hx => hmem x (List.mem_append.2 (.inl hx))⟩
  all_goals unfold TM.slot
  all_goals split
  · rename_i x hx
    have e : T.free = T.free.dropLast ++ [x] := by
      have hne : T.free ≠ [] := fun h => by rw [h] at hx; cases hx
      rw [List.getLast?_eq_some_getLast hne] at hx
      rw [← Option.some.inj hx]
      exact (List.dropLast_concat_getLast hne).symm
    dsimp only
    rw [List.length_set]
    refine List.Perm.trans ?_ hp
    rw [List.perm_iff_count]
    intro a
    conv => rhs; rw [e]
    simp only [List.cons_append, List.count_append, List.count_cons, List.count_nil]
    omega
  · rename_i hx
    have e : T.free = [] := List.getLast?_eq_none_iff.1 hx
    dsimp only
    rw [e] at hp ⊢
    rw [List.append_nil] at hp ⊢
    rw [List.length_append, List.length_singleton, List.range_succ]
    exact (List.Perm.cons _ hp).trans (List.perm_append_singleton _ _).symm
  · rename_i x hx
    intro y hy
    dsimp only
    rw [List.getElem?_set_ne (fun e => (hlast x hx).2 (by rw [e]; exact hy))]
  · intro y hy
    dsimp only
    rw [List.getElem?_append_left (hmem y (List.mem_append.2 (.inl hy)))]
  · rename_i x hx; exact (hlast x hx).2
  · intro hx
    have := hmem _ (List.mem_append.2 (.inl hx))
    dsimp only at this; omega
  · dsimp only; rw [List.length_set]; omega
  · dsimp only; rw [List.length_append]; simp
  · exact .inl (by dsimp only; rw [List.length_set])
  · rename_i hx
    exact .inr (List.getLast?_eq_none_iff.1 hx)
  · rename_i x hx; dsimp only; rw [List.length_set]; exact (hlast x hx).1
  · dsimp only; simp
end Go.Proofs.Ytjijemeabfiipaa
