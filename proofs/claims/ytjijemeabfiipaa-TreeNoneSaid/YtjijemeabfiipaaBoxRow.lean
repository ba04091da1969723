/- Of no program: a box that holds a row of one's own, beside an iterator; what a tree reads lies in cells alone. -/
import Derived.Test.YtjijemeabfiipaaIter
namespace Go.Proofs.Ytjijemeabfiipaa
open Go.ChangeShapes Go.WideShapes Go.ChangeAt Go.RowKit
set_option linter.unusedSimpArgs false

/-- what lies in cells -/
def cellsOf (h : PH) : PH := fun b => match h b with | some (.cells cs t fr) => some (.cells cs t fr) | _ => none
theorem cellsOf_le (h : PH) : PH.le (cellsOf h) h := fun b o e => by
  unfold cellsOf at e
  split at e
  · rename_i cs t fr hb; rw [hb]; exact e
  · cases e
theorem cellsOf_eq {h : PH} {b : Nat} {cs : Array Value} {t : TypeId} {fr : Nat × Nat} (e : h b = some (.cells cs t fr)) : cellsOf h b = some (.cells cs t fr) := by unfold cellsOf; rw [e]
theorem cellsOf_cells {h : PH} {b : Nat} {o : Obj} (e : cellsOf h b = some o) : ∃ cs t fr, o = .cells cs t fr := by
  unfold cellsOf at e
  split at e
  · cases e; exact ⟨_, _, _, rfl⟩
  · cases e
theorem cellsOf_mono {h k : PH} (le : PH.le h k) : PH.le (cellsOf h) (cellsOf k) := fun b o e => by
  obtain ⟨cs, t, fr, rfl⟩ := cellsOf_cells e
  exact cellsOf_eq (le b _ (cellsOf_le h b _ e))
theorem cellsOf_none {h : PH} {b : Nat} (e : h b = none) : cellsOf h b = none := by unfold cellsOf; rw [e]
/-- a thing that lies in cells -/
def InCells (A : HP) : Prop := ∀ h, A h → A (cellsOf h)
theorem inCells_blk (b : Nat) (cs : Array Value) (t : TypeId) : InCells (blk b cs t) := fun _ hA => cellsOf_eq hA
theorem inCells_own (e : TypeId) (size : Nat) (v : Value) (n : Nat) (xs : List Value) : InCells (ownS e size v n xs) := fun _ ⟨h1, h2, h3⟩ => by
  refine ⟨h1, h2, ?_⟩
  rcases h3 with h3 | ⟨g, cap, cur, h3, h4, h5⟩
  · exact .inl h3
  · exact .inr ⟨g, cap, cur, h3, cellsOf_eq h4, h5⟩
theorem Holds.inCells : ∀ {l : List HP}, (∀ A ∈ l, InCells A) → ∀ {h : PH}, Holds l h → Holds l (cellsOf h)
  | [], _, _, _ => trivial
  | A :: _, hl, _, ⟨h1, h2, a, b, c, d, e⟩ =>
    ⟨cellsOf h1, cellsOf h2, fun x => (a x).imp cellsOf_none cellsOf_none, cellsOf_mono b, cellsOf_mono c, hl A (List.mem_cons_self ..) _ d, Holds.inCells (fun B hB => hl B (List.mem_cons_of_mem _ hB)) e⟩
theorem inCells_group {l : List HP} (hl : ∀ A ∈ l, InCells A) : InCells (group l) := fun _ hA => Holds.inCells hl hA

section
variable {B w w' W W' : World} {D : PH} {l : List HP}
/-- things that are held, in a heap that has these cells -/
theorem Sat.inPool {l' : List HP} (hs : Sat B D w (l ++ l')) (hl : ∀ A ∈ l, InCells A) {E : PH} (hE : PH.le (cellsOf (heapOf w)) E) (hW : PH.le E (heapOf W)) : Sat W (fun _ => none) W l := by
  obtain ⟨h1, h2, a, b, c, d, e⟩ := (Holds.perm (List.perm_append_comm (l₁ := (fun h => PH.le D h) :: l) (l₂ := l')) hs.holds).part
  obtain ⟨k1, k2, a', b', c', d', e'⟩ := e
  have := Holds.inCells hl e'
  exact ⟨rfl, rfl, rfl, Nat.le_refl _, ⟨fun _ => none, heapOf W, fun _ => .inl rfl, PH.le.none _, PH.le.refl _, PH.le.refl _, this.mono (((cellsOf_mono (c'.trans c)).trans hE).trans hW)⟩⟩

/-! ### a box that holds a row -/
def OwB (bo : Nat) (W : World) (k : Nat) : Prop := k = bo ∨ ∃ v t, W.heap[bo]? = some (.cells #[v] t (0, 0)) ∧ v.ownBlock = some k
theorem ownerB {n₀ bo : Nat} (h : bo < n₀) : Owner n₀ (OwB bo) where
  stay := fun W W' hn k x hx => hx.imp (fun h => h) (fun ⟨v, t, h1, h2⟩ => ⟨v, t, by rw [← k.block bo (by omega) (fun h => h)]; exact h1, h2⟩)
  put := fun W l o hl x hx => hx.imp (fun h => h) (fun ⟨v, t, h1, h2⟩ => ⟨v, t, by rw [← World.putObj_heap_other (o := o) (show bo ≠ l by omega)]; exact h1, h2⟩)
structure BoxRow (W : World) (bo : Nat) (tb e : TypeId) (size : Nat) (v : Value) (n : Nat) (xs : List Value) : Prop where
  box : W.heap[bo]? = some (.cells #[v] tb (0, 0))
  own : Proofs.Ytjijemeabfiipaa.Own W e size v n xs
  apart : v.ownBlock ≠ some bo
variable {bo : Nat} {tb e : TypeId} {size n n' : Nat} {v v' : Value} {xs xs' : List Value}
theorem BoxRow.ow (h : BoxRow W bo tb e size v n xs) {k : Nat} (hk : OwB bo W k) : k = bo ∨ v.ownBlock = some k := by
  rcases hk with hk | ⟨v1, t, h1, h2⟩
  · exact .inl hk
  · rw [h.box] at h1; cases h1; exact .inr h2
theorem BoxRow.frame (h : BoxRow W bo tb e size v n xs) (hk : ∀ k, OwB bo W k → k < W.heap.size → W'.heap[k]? = W.heap[k]?) : BoxRow W' bo tb e size v n xs :=
  ⟨by rw [hk bo (.inl rfl) (lt_of_heap h.box)]; exact h.box, h.own.frame (fun g hg hlt => hk g (.inr ⟨v, tb, h.box, hg⟩) hlt), h.apart⟩
open Classical in
theorem BoxRow.sat (h : BoxRow W bo tb e size v n xs) : ∃ D, (∀ k o, D k = some o ↔ (¬ OwB bo W k ∧ heapOf W k = some o)) ∧ Sat W D W [blk bo #[v] tb, ownS e size v n xs] := by
  refine ⟨fun k => if OwB bo W k then none else heapOf W k, fun k o => by dsimp only; split <;> simp_all, rfl, rfl, rfl, Nat.le_refl _, fun k => if OwB bo W k then none else heapOf W k, fun k => if OwB bo W k then heapOf W k else none, fun k => ?_, fun k o hk => ?_, fun k o hk => ?_, PH.le.refl _, one bo (.cells #[v] tb), under W v, fun k => ?_, fun k o hk => ?_, fun k o hk => ?_, one_self _ _, under W v, fun _ => none, fun _ => .inr rfl, PH.le.refl _, PH.le.none _, under_own h.own, trivial⟩
  · by_cases hk : OwB bo W k
    · exact .inl (by dsimp only; rw [if_pos hk])
    · exact .inr (by dsimp only; rw [if_neg hk])
  · dsimp only at hk; split at hk
    · cases hk
    · exact hk
  · dsimp only at hk; split at hk
    · exact hk
    · cases hk
  · by_cases hk : k = bo
    · subst hk
      refine .inr ?_
      cases hu : under W v k with
      | none => rfl
      | some o => exact absurd (under_some hu) h.apart
    · exact .inl (by unfold one; rw [if_neg hk])
  · have := one_some hk
    subst this
    rw [one_self] at hk; cases hk
    dsimp only
    rw [if_pos (.inl rfl)]
    exact h.box
  · have h1 := under_some hk
    dsimp only
    rw [if_pos (.inr ⟨v, tb, h.box, h1⟩)]
    exact under_le _ _ _ _ hk
/-- behind a round: the box holds the row as it is now; all else lies as it lay -/
theorem BoxRow.back (h : BoxRow W bo tb e size v n xs) {D : PH} (hD : ∀ k o, D k = some o ↔ (¬ OwB bo W k ∧ heapOf W k = some o)) (hs : Sat W D W' (blk bo #[v'] tb :: ownS e size v' n' xs' :: l)) :
    BoxRow W' bo tb e size v' n' xs' ∧ KpO (OwB bo) W W' ∧ KeepsOthers W W' ∧ Kept (OwB bo W) W W' ∧ (∀ k, OwB bo W' k → OwB bo W k ∨ W.heap.size ≤ k) := by
  have hbox : W'.heap[bo]? = some (.cells #[v'] tb (0, 0)) := hs.blk 0 rfl
  have hown := hs.own 1 rfl
  have hle : PH.le D (heapOf W') := hs.pool
  have hap : v'.ownBlock ≠ some bo := by
    intro hb
    obtain ⟨h1, h2, a, b, c, d, e0⟩ := hs.holds.swap
    obtain ⟨m1, m2, m3, m4, m5, m6, m7⟩ := Holds.swap e0
    rcases a bo with g | g
    · exact absurd (d.symm.trans g) (by simp)
    · rcases m6.2.2 with ⟨q, _⟩ | ⟨g', cap, cur, q1, q2, _⟩
      · rw [q] at hb; cases hb
      · rw [q1] at hb
        have : g' = bo := by simpa [Value.ownBlock] using hb
        subst this
        have := m4 _ _ q2
        rw [g] at this; cases this
  have hBR : BoxRow W' bo tb e size v' n' xs' := ⟨hbox, hown, hap⟩
  have hback : ∀ k, OwB bo W' k → OwB bo W k ∨ W.heap.size ≤ k := by
    intro k hk
    rcases hBR.ow hk with hk | hk
    · exact .inl (.inl hk)
    · by_cases hlt : k < W.heap.size
      · refine .inl (Classical.byContradiction fun hn => ?_)
        have hDk : D k = some W.heap[k] := (hD _ _).2 ⟨hn, Array.getElem?_eq_getElem hlt⟩
        obtain ⟨h1, h2, a, b, c, d, e0⟩ := hs.holds
        obtain ⟨m1, m2, m3, m4, m5, m6, m7⟩ := Holds.swap e0
        rcases m6.2.2 with ⟨q, _⟩ | ⟨g', cap, cur, q1, q2, _⟩
        · rw [q] at hk; cases hk
        · rw [q1] at hk
          have : g' = k := by simpa [Value.ownBlock] using hk
          subst this
          have h3 := d _ _ hDk
          have h4 := m4 _ _ q2
          rcases a g' with g | g
          · rw [g] at h3; cases h3
          · rw [g] at h4; cases h4
      · exact .inr (by omega)
  refine ⟨hBR, ⟨hs.size, fun k cs t fr hk hn => hle _ _ ((hD _ _).2 ⟨hn, hk⟩), hback, fun _ k hk => ?_⟩, ⟨hs.size, fun k o hk hc => ?_⟩, ⟨hs.os, hs.tape, hs.output, hs.size, fun k hk hn => ?_⟩, hback⟩
  · rcases hBR.ow hk with hk | hk
    · rw [hk]; exact lt_of_heap hbox
    · exact hown.lt k hk
  · refine hle _ _ ((hD _ _).2 ⟨fun hn => ?_, hk⟩)
    rcases h.ow hn with h1 | h1
    · subst h1; rw [h.box] at hk; cases hk; cases hc
    · rcases h.own.2.2 with ⟨q, _⟩ | ⟨g', cap, cur, q1, q2, _⟩
      · rw [q] at h1; cases h1
      · rw [q1] at h1
        have : g' = k := by simpa [Value.ownBlock] using h1
        subst this
        rw [q2] at hk; cases hk; cases hc
  · rw [Array.getElem?_eq_getElem hk]
    exact hle _ _ ((hD _ _).2 ⟨hn, Array.getElem?_eq_getElem hk⟩)
end

/-! ### what the loop's own record keeps -/
theorem room_of_none {F : Fence} (hd : F.depth = none) (k : Nat) : F.room k := fun d h => by rw [hd] at h; cases h
theorem RoundIn.anyDepth {F : Fence} (hd : F.depth = none) {m m' : Nat} {P : Program} {l : Nat} {f : FuncId} {tmps : Array Value} {assign body : Code} {w : World} {R : Ending → World → Prop}
    (h : RoundIn F m P l f tmps assign body w R) : RoundIn F m' P l f tmps assign body w R := ⟨h.1, fun c cs _ => h.2 c cs (Proofs.Ytjijemeabfiipaa.room_of_none hd _)⟩
theorem YieldAt.anyDepth {F : Fence} (hd : F.depth = none) {m : Nat} (m' : Nat) {P : Program} {l : Nat} {args : Array Value} {W : World} {R : Ending → World → Prop} (h : YieldAt F m P l args W R) : YieldAt F m' P l args W R := by
  obtain ⟨fn, tmps, assign, body, hy, hR⟩ := h
  exact ⟨fn, tmps, assign, body, hy, Proofs.Ytjijemeabfiipaa.RoundIn.anyDepth hd hR⟩
end Go.Proofs.Ytjijemeabfiipaa
