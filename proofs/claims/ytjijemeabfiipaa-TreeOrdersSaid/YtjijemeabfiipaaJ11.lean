/- Joined texts: The tree: contract of through, at any node. Of no program: a box that holds a row of one's own, beside an iterator; what a tree reads lies in cells alone. Of no program: the invariant of a loop over an iterator whose body appends to a row in a box. The tree: Range, and what it hands back. -/
import Derived.Test.YtjijemeabfiipaaJ10
import Derived.Test.YtjijemeabfiipaaJ8
import Derived.Shelf.Abstract
/- The tree: contract of through, at any node. -/
namespace Go.Proofs.Ytjijemeabfiipaa
open Go.ChangeShapes Go.WideShapes Go.ChangeAt Go.RowKit
set_option maxRecDepth 100000
set_option linter.unusedSimpArgs false

/-- what is told below a node -/
inductive TM.Walks (T : TM) (s : Spn) : Nat → List (Val × VT) → Prop
  | leaf {i : Nat} {m : NodeM} (hi : T.nodes[i]? = some m) (hl : m.leaf = true) (hv : m.vals.length = m.keys.length) (hkb : m.keys.length ≤ 1000) : TM.Walks T s i (m.tell s m.keys.length)
  | inner {i : Nat} {m : NodeM} (hi : T.nodes[i]? = some m) (hl : m.leaf = false) (hkb : m.keys.length ≤ 1000) (hdl : m.kids.length = m.keys.length + 1) (n : Nat) (f : Nat → List (Val × VT)) (hn : m.start s + n ≤ m.kids.length)
      (hgo : ∀ j, j < n → 0 < j → m.past s (m.start s + j - 1) = false) (hstop : m.start s + n = m.kids.length ∨ (0 < n ∧ m.past s (m.start s + n - 1) = true))
      (ih : ∀ j kid, j < n → m.kids[m.start s + j]? = some kid → TM.Walks T s kid (f j)) : TM.Walks T s i (tells f n)

theorem through_ok {n₀ : Nat} {Ow : World → Nat → Prop} (hO : Owner n₀ Ow) {t l N : Nat} {T : TM} {s : Spn} {J Jx : List (Val × VT) → World → Prop}
    (hJ : ∀ pre W W', J pre W → Kept (fun _ => False) W W' → J pre W')
    (hY : ∀ n pre x W, J pre W → pre.length < N → YieldAt Fence.wide n Try.prog l #[x.1.v, .int .i64 x.2] W fun e W' => (e = .returned (.bool true) ∧ J (pre ++ [x]) W' ∧ KpO Ow W W') ∨ (e = .returned (.bool false) ∧ Jx (pre ++ [x]) W'))
    {i : Nat} {q : List (Val × VT)} (hw : T.Walks s i q) : ∀ (D : PH), TreeP D t T → ∀ (pre : List (Val × VT)) (W : World), J pre W → pre.length + q.length ≤ N → ItOk n₀ Ow D W →
    Calls Try.prog 33 #[.pointer (some ⟨t, 0, none⟩), .int .i64 i, s.v, .func (.yield l) #[] #[]] W fun e W' =>
      (e = .returned (.bool true) ∧ J (pre ++ q) W' ∧ ItOk n₀ Ow D W') ∨ (e = .returned (.bool false) ∧ ∃ p, p <+: q ∧ Jx (pre ++ p) W') := by
  induction hw with
  | leaf hi hl hv hkb => intro D hT pre W hj hN hit; exact through_leaf hO hJ hY hi hl hv hkb hT pre W hj hN hit
  | inner hi hl hkb hdl n f hn hgo hstop _ ih =>
    intro D hT pre W hj hN hit
    cases hlo : s.hasLo
    · exact through_nolo hO hJ hi hl hkb hdl hlo n f hn hgo hstop ih hT pre W hj hN hit
    · exact through_lo hO hJ hi hl hkb hdl hlo n f hn hgo hstop ih hT pre W hj hN hit
end Go.Proofs.Ytjijemeabfiipaa

/- Of no program: a box that holds a row of one's own, beside an iterator; what a tree reads lies in cells alone. -/
namespace Go.Proofs.Ytjijemeabfiipaa
open Go.ChangeShapes Go.WideShapes Go.ChangeAt Go.RowKit
set_option linter.unusedSimpArgs false

/-- what lies in cells -/
def cellsOf (h : PH) : PH := fun b => match h b with | some (.cells cs t fr) => some (.cells cs t fr) | _ => none
theorem cellsOf_le (h : PH) : PH.le (cellsOf h) h := fun b o e => by
  unfold cellsOf at e
  split at e
  · rename_i cs t fr hb; rw [hb]; exact e
  · cases e
theorem cellsOf_eq {h : PH} {b : Nat} {cs : Array Value} {t : TypeId} {fr : Nat × Nat} (e : h b = some (.cells cs t fr)) : cellsOf h b = some (.cells cs t fr) := by unfold cellsOf; rw [e]
theorem cellsOf_cells {h : PH} {b : Nat} {o : Obj} (e : cellsOf h b = some o) : ∃ cs t fr, o = .cells cs t fr := by
  unfold cellsOf at e
  split at e
  · cases e; exact ⟨_, _, _, rfl⟩
  · cases e
theorem cellsOf_mono {h k : PH} (le : PH.le h k) : PH.le (cellsOf h) (cellsOf k) := fun b o e => by
  obtain ⟨cs, t, fr, rfl⟩ := cellsOf_cells e
  exact cellsOf_eq (le b _ (cellsOf_le h b _ e))
theorem cellsOf_none {h : PH} {b : Nat} (e : h b = none) : cellsOf h b = none := by unfold cellsOf; rw [e]
/-- a thing that lies in cells -/
def InCells (A : HP) : Prop := ∀ h, A h → A (cellsOf h)
theorem inCells_blk (b : Nat) (cs : Array Value) (t : TypeId) : InCells (blk b cs t) := fun _ hA => cellsOf_eq hA
theorem inCells_own (e : TypeId) (size : Nat) (v : Value) (n : Nat) (xs : List Value) : InCells (ownS e size v n xs) := fun _ ⟨h1, h2, h3⟩ => by
  refine ⟨h1, h2, ?_⟩
  rcases h3 with h3 | ⟨g, cap, cur, h3, h4, h5⟩
  · exact .inl h3
  · exact .inr ⟨g, cap, cur, h3, cellsOf_eq h4, h5⟩
theorem Holds.inCells : ∀ {l : List HP}, (∀ A ∈ l, InCells A) → ∀ {h : PH}, Holds l h → Holds l (cellsOf h)
  | [], _, _, _ => trivial
  | A :: _, hl, _, ⟨h1, h2, a, b, c, d, e⟩ =>
    ⟨cellsOf h1, cellsOf h2, fun x => (a x).imp cellsOf_none cellsOf_none, cellsOf_mono b, cellsOf_mono c, hl A (List.mem_cons_self ..) _ d, Holds.inCells (fun B hB => hl B (List.mem_cons_of_mem _ hB)) e⟩
theorem inCells_group {l : List HP} (hl : ∀ A ∈ l, InCells A) : InCells (group l) := fun _ hA => Holds.inCells hl hA

section
variable {B w w' W W' : World} {D : PH} {l : List HP}
/-- things that are held, in a heap that has these cells -/
theorem Sat.inPool {l' : List HP} (hs : Sat B D w (l ++ l')) (hl : ∀ A ∈ l, InCells A) {E : PH} (hE : PH.le (cellsOf (heapOf w)) E) (hW : PH.le E (heapOf W)) : Sat W (fun _ => none) W l := by
  obtain ⟨h1, h2, a, b, c, d, e⟩ := (Holds.perm (List.perm_append_comm (l₁ := (fun h => PH.le D h) :: l) (l₂ := l')) hs.holds).part
  obtain ⟨k1, k2, a', b', c', d', e'⟩ := e
  have := Holds.inCells hl e'
  exact ⟨rfl, rfl, rfl, Nat.le_refl _, ⟨fun _ => none, heapOf W, fun _ => .inl rfl, PH.le.none _, PH.le.refl _, PH.le.refl _, this.mono (((cellsOf_mono (c'.trans c)).trans hE).trans hW)⟩⟩

/-! ### a box that holds a row -/
def OwB (bo : Nat) (W : World) (k : Nat) : Prop := k = bo ∨ ∃ v t, W.heap[bo]? = some (.cells #[v] t (0, 0)) ∧ v.ownBlock = some k
theorem ownerB {n₀ bo : Nat} (h : bo < n₀) : Owner n₀ (OwB bo) where
  stay := fun W W' hn k x hx => hx.imp (fun h => h) (fun ⟨v, t, h1, h2⟩ => ⟨v, t, by rw [← k.block bo (by omega) (fun h => h)]; exact h1, h2⟩)
  put := fun W l o hl x hx => hx.imp (fun h => h) (fun ⟨v, t, h1, h2⟩ => ⟨v, t, by rw [← World.putObj_heap_other (o := o) (show bo ≠ l by omega)]; exact h1, h2⟩)
structure BoxRow (W : World) (bo : Nat) (tb e : TypeId) (size : Nat) (v : Value) (n : Nat) (xs : List Value) : Prop where
  box : W.heap[bo]? = some (.cells #[v] tb (0, 0))
  own : Proofs.Ytjijemeabfiipaa.Own W e size v n xs
  apart : v.ownBlock ≠ some bo
variable {bo : Nat} {tb e : TypeId} {size n n' : Nat} {v v' : Value} {xs xs' : List Value}
theorem BoxRow.ow (h : BoxRow W bo tb e size v n xs) {k : Nat} (hk : OwB bo W k) : k = bo ∨ v.ownBlock = some k := by
  rcases hk with hk | ⟨v1, t, h1, h2⟩
  · exact .inl hk
  · rw [h.box] at h1; cases h1; exact .inr h2
theorem BoxRow.frame (h : BoxRow W bo tb e size v n xs) (hk : ∀ k, OwB bo W k → k < W.heap.size → W'.heap[k]? = W.heap[k]?) : BoxRow W' bo tb e size v n xs :=
  ⟨by rw [hk bo (.inl rfl) (lt_of_heap h.box)]; exact h.box, h.own.frame (fun g hg hlt => hk g (.inr ⟨v, tb, h.box, hg⟩) hlt), h.apart⟩
open Classical in
theorem BoxRow.sat (h : BoxRow W bo tb e size v n xs) : ∃ D, (∀ k o, D k = some o ↔ (¬ OwB bo W k ∧ heapOf W k = some o)) ∧ Sat W D W [blk bo #[v] tb, ownS e size v n xs] := by
  refine ⟨fun k => if OwB bo W k then none else heapOf W k, fun k o => by dsimp only; split <;> simp_all, rfl, rfl, rfl, Nat.le_refl _, fun k => if OwB bo W k then none else heapOf W k, fun k => if OwB bo W k then heapOf W k else none, fun k => ?_, fun k o hk => ?_, fun k o hk => ?_, PH.le.refl _, one bo (.cells #[v] tb), under W v, fun k => ?_, fun k o hk => ?_, fun k o hk => ?_, one_self _ _, under W v, fun _ => none, fun _ => .inr rfl, PH.le.refl _, PH.le.none _, under_own h.own, trivial⟩
  · by_cases hk : OwB bo W k
    · exact .inl (by dsimp only; rw [if_pos hk])
    · exact .inr (by dsimp only; rw [if_neg hk])
  · dsimp only at hk; split at hk
    · cases hk
    · exact hk
  · dsimp only at hk; split at hk
    · exact hk
    · cases hk
  · by_cases hk : k = bo
    · subst hk
      refine .inr ?_
      cases hu : under W v k with
      | none => rfl
      | some o => exact absurd (under_some hu) h.apart
    · exact .inl (by unfold one; rw [if_neg hk])
  · have := one_some hk
    subst this
    rw [one_self] at hk; cases hk
    dsimp only
    rw [if_pos (.inl rfl)]
    exact h.box
  · have h1 := under_some hk
    dsimp only
    rw [if_pos (.inr ⟨v, tb, h.box, h1⟩)]
    exact under_le _ _ _ _ hk
/-- behind a round: the box holds the row as it is now; all else lies as it lay -/
theorem BoxRow.back (h : BoxRow W bo tb e size v n xs) {D : PH} (hD : ∀ k o, D k = some o ↔ (¬ OwB bo W k ∧ heapOf W k = some o)) (hs : Sat W D W' (blk bo #[v'] tb :: ownS e size v' n' xs' :: l)) :
    BoxRow W' bo tb e size v' n' xs' ∧ KpO (OwB bo) W W' ∧ KeepsOthers W W' ∧ Kept (OwB bo W) W W' ∧ (∀ k, OwB bo W' k → OwB bo W k ∨ W.heap.size ≤ k) := by
  have hbox : W'.heap[bo]? = some (.cells #[v'] tb (0, 0)) := hs.blk 0 rfl
  have hown := hs.own 1 rfl
  have hle : PH.le D (heapOf W') := hs.pool
  have hap : v'.ownBlock ≠ some bo := by
    intro hb
    obtain ⟨h1, h2, a, b, c, d, e0⟩ := hs.holds.swap
    obtain ⟨m1, m2, m3, m4, m5, m6, m7⟩ := Holds.swap e0
    rcases a bo with g | g
    · exact absurd (d.symm.trans g) (by simp)
    · rcases m6.2.2 with ⟨q, _⟩ | ⟨g', cap, cur, q1, q2, _⟩
      · rw [q] at hb; cases hb
      · rw [q1] at hb
        have : g' = bo := by simpa [Value.ownBlock] using hb
        subst this
        have := m4 _ _ q2
        rw [g] at this; cases this
  have hBR : BoxRow W' bo tb e size v' n' xs' := ⟨hbox, hown, hap⟩
  have hback : ∀ k, OwB bo W' k → OwB bo W k ∨ W.heap.size ≤ k := by
    intro k hk
    rcases hBR.ow hk with hk | hk
    · exact .inl (.inl hk)
    · by_cases hlt : k < W.heap.size
      · refine .inl (Classical.byContradiction fun hn => ?_)
        have hDk : D k = some W.heap[k] := (hD _ _).2 ⟨hn, Array.getElem?_eq_getElem hlt⟩
        obtain ⟨h1, h2, a, b, c, d, e0⟩ := hs.holds
        obtain ⟨m1, m2, m3, m4, m5, m6, m7⟩ := Holds.swap e0
        rcases m6.2.2 with ⟨q, _⟩ | ⟨g', cap, cur, q1, q2, _⟩
        · rw [q] at hk; cases hk
        · rw [q1] at hk
          have : g' = k := by simpa [Value.ownBlock] using hk
          subst this
          have h3 := d _ _ hDk
          have h4 := m4 _ _ q2
          rcases a g' with g | g
          · rw [g] at h3; cases h3
          · rw [g] at h4; cases h4
      · exact .inr (by omega)
  refine ⟨hBR, ⟨hs.size, fun k cs t fr hk hn => hle _ _ ((hD _ _).2 ⟨hn, hk⟩), hback, fun _ k hk => ?_⟩, ⟨hs.size, fun k o hk hc => ?_⟩, ⟨hs.os, hs.tape, hs.output, hs.size, fun k hk hn => ?_⟩, hback⟩
  · rcases hBR.ow hk with hk | hk
    · rw [hk]; exact lt_of_heap hbox
    · exact hown.lt k hk
  · refine hle _ _ ((hD _ _).2 ⟨fun hn => ?_, hk⟩)
    rcases h.ow hn with h1 | h1
    · subst h1; rw [h.box] at hk; cases hk; cases hc
    · rcases h.own.2.2 with ⟨q, _⟩ | ⟨g', cap, cur, q1, q2, _⟩
      · rw [q] at h1; cases h1
      · rw [q1] at h1
        have : g' = k := by simpa [Value.ownBlock] using h1
        subst this
        rw [q2] at hk; cases hk; cases hc
  · rw [Array.getElem?_eq_getElem hk]
    exact hle _ _ ((hD _ _).2 ⟨hn, Array.getElem?_eq_getElem hk⟩)
end

/-! ### what the loop's own record keeps -/
theorem room_of_none {F : Fence} (hd : F.depth = none) (k : Nat) : F.room k := fun d h => by rw [hd] at h; cases h
theorem RoundIn.anyDepth {F : Fence} (hd : F.depth = none) {m m' : Nat} {P : Program} {l : Nat} {f : FuncId} {tmps : Array Value} {assign body : Code} {w : World} {R : Ending → World → Prop}
    (h : RoundIn F m P l f tmps assign body w R) : RoundIn F m' P l f tmps assign body w R := ⟨h.1, fun c cs _ => h.2 c cs (Proofs.Ytjijemeabfiipaa.room_of_none hd _)⟩
theorem YieldAt.anyDepth {F : Fence} (hd : F.depth = none) {m : Nat} (m' : Nat) {P : Program} {l : Nat} {args : Array Value} {W : World} {R : Ending → World → Prop} (h : YieldAt F m P l args W R) : YieldAt F m' P l args W R := by
  obtain ⟨fn, tmps, assign, body, hy, hR⟩ := h
  exact ⟨fn, tmps, assign, body, hy, Proofs.Ytjijemeabfiipaa.RoundIn.anyDepth hd hR⟩
end Go.Proofs.Ytjijemeabfiipaa

/- Of no program: the invariant of a loop over an iterator whose body appends to a row in a box. -/
namespace Go.Proofs.Ytjijemeabfiipaa
open Go.ChangeShapes Go.WideShapes Go.ChangeAt Go.RowKit
set_option linter.unusedSimpArgs false

section
variable {w W W' : World} {bo n₀ B : Nat} {tb e : TypeId} {size n : Nat} {v v' : Value} {xs : List Value} {α : Type} {f : α → List Value} {pre : List α} {l : List HP}
theorem KpO.of_kept {Ow : World → Nat → Prop} (hO : Owner n₀ Ow) (hn : n₀ ≤ W.heap.size) (k : Kept (fun _ => False) W W') : KpO Ow W W' where
  size := k.size
  same := fun b _ _ _ h _ => (k.block b (lt_of_heap h) (fun h => h)).trans h
  back := fun b hb => .inl (hO.stay W W' hn k b hb)
  fit := fun hf b hb => Nat.lt_of_lt_of_le (hf b (hO.stay W W' hn k b hb)) k.size
theorem keepsFrom_kept (k : Kept (fun _ => False) W W') (B : Nat) : KeepsFrom B W W' := ⟨k.size, fun b _ _ h _ => (k.block b (lt_of_heap h) (fun h => h)).trans h⟩

theorem OwB.lt (h : BoxRow W bo tb e size v n xs) {k : Nat} (hk : OwB bo W k) : k < W.heap.size := by
  rcases h.ow hk with hk | hk
  · rw [hk]; exact lt_of_heap h.box
  · exact h.own.lt k hk
theorem OwB.cells (h : BoxRow W bo tb e size v n xs) {k : Nat} (hk : OwB bo W k) : ∃ cs t fr, W.heap[k]? = some (.cells cs t fr) := by
  rcases h.ow hk with hk | hk
  · rw [hk]; exact ⟨_, _, _, h.box⟩
  · rcases h.own.2.2 with ⟨q, _⟩ | ⟨g', cap, cur, q1, q2, _⟩
    · rw [q] at hk; cases hk
    · rw [q1] at hk
      have : g' = k := by simpa [Value.ownBlock] using hk
      subst this
      exact ⟨_, _, _, q2⟩
theorem OwB.same (hb : W'.heap[bo]? = W.heap[bo]?) {k : Nat} (hk : OwB bo W' k) : OwB bo W k := hk.imp (fun h => h) (fun ⟨v, t, h1, h2⟩ => ⟨v, t, by rw [← hb]; exact h1, h2⟩)

open Classical in
/-- what an iterator may read beside the row -/
theorem BoxRow.iter (h : BoxRow W bo tb e size v n xs) : ∃ E : PH, (∀ k cs t fr, W.heap[k]? = some (.cells cs t fr) → ¬ OwB bo W k → E k = some (.cells cs t fr)) ∧ ∀ W', Below W.heap.size W W' → ItOk W.heap.size (OwB bo) E W' := by
  refine ⟨fun k => if OwB bo W k then none else cellsOf (heapOf W) k, fun k cs t fr hk hn => ?_, fun W' hb => ?_⟩
  · dsimp only; rw [if_neg hn]; exact cellsOf_eq hk
  · have hbo : W'.heap[bo]? = W.heap[bo]? := hb.block bo (lt_of_heap h.box)
    refine ⟨fun k o hk => ?_, fun k o hk => ?_, fun k hk => ?_, hb.size⟩
    · split at hk
      · cases hk
      · have := cellsOf_le _ _ _ hk
        exact (hb.block k (lt_of_heap this)).trans this
    · split at hk
      · cases hk
      · rename_i hn
        exact ⟨cellsOf_cells hk, fun ho => hn (OwB.same hbo ho)⟩
    · exact Nat.lt_of_lt_of_le (OwB.lt h (OwB.same hbo hk)) hb.size

/-- the row in the box has what came so far; nothing that lay in w has turned -/
structure Inv (w : World) (bo : Nat) (tb e : TypeId) (size : Nat) (f : α → List Value) (pre : List α) (W : World) : Prop where
  kept : Kept (fun _ => False) w W
  new : ∀ k, OwB bo W k → w.heap.size ≤ k
  row : ∃ v, BoxRow W bo tb e size v pre.length (pre.flatMap f)
theorem Inv.frame (h : Inv w bo tb e size f pre W) (hk : Kept (fun _ => False) W W') : Inv w bo tb e size f pre W' := by
  obtain ⟨h1, h2, v, h3⟩ := h
  have hb : W'.heap[bo]? = W.heap[bo]? := hk.block bo (lt_of_heap h3.box) (fun h => h)
  exact ⟨h1.trans hk (fun _ h => h.elim), fun k ho => h2 k (OwB.same hb ho), v, h3.frame (fun k _ hlt => hk.block k hlt (fun h => h))⟩
theorem Inv.ownFrom (hw : w.heap.size ≤ B) (hbo : bo < B) : OwnFrom B (Inv w bo tb e size f) := by
  intro pre W W' row h hg hr
  obtain ⟨h1, h2, v, h3⟩ := h
  have hb : W'.heap[bo]? = W.heap[bo]? := hg.block bo (lt_of_heap h3.box) (fun he => by have := (hr bo he.symm).1; omega)
  refine ⟨h1.trans ⟨hg.os, hg.tape, hg.output, hg.size, fun k hk hn => hg.block k hk hn⟩ (fun k hk => .inr (by have := (hr k hk.symm).1; omega)), fun k ho => h2 k (OwB.same hb ho), v, h3.frame (fun k ho hlt => hg.block k hlt (fun he => ?_))⟩
  obtain ⟨_, o, ho', hc⟩ := hr k he.symm
  obtain ⟨cs, t, fr, hcs⟩ := OwB.cells h3 ho
  rw [hcs] at ho'
  cases ho'
  cases hc
/-- behind a round -/
theorem Inv.next (h : Inv w bo tb e size f pre W) (hb : BoxRow W bo tb e size v n xs) {D : PH} (hD : ∀ k o, D k = some o ↔ (¬ OwB bo W k ∧ heapOf W k = some o)) {x : α}
    (hs : Sat W D W' (blk bo #[v'] tb :: ownS e size v' (pre ++ [x]).length ((pre ++ [x]).flatMap f) :: l)) : KeepsFrom B W W' ∧ KpO (OwB bo) W W' ∧ Inv w bo tb e size f (pre ++ [x]) W' := by
  obtain ⟨a, b, c, d, g⟩ := hb.back hD hs
  refine ⟨c.from B, b, ⟨h.kept.trans d (fun k hk => .inr (h.new k hk)), fun k hk => ?_, v', a⟩⟩
  rcases g k hk with hk | hk
  · exact h.new k hk
  · exact Nat.le_trans h.kept.size hk
/-- at the beginning -/
theorem Inv.start (hk : Kept (fun _ => False) w W) (hb : W.heap[bo]? = some (.cells #[.slice none 0 0] tb (0, 0))) (hbo : w.heap.size ≤ bo) : Inv w bo tb e size f [] W := by
  refine ⟨hk, fun k ho => ?_, _, hb, Own.nil _ _ _, fun h => by cases h⟩
  rcases ho with rfl | ⟨v, t, h1, h2⟩
  · exact hbo
  · rw [hb] at h1; cases h1; cases h2
/-- at the end -/
theorem Inv.done {B0 : World} {D0 : PH} (h : Inv w bo tb e size f pre W) (hs : Sat B0 D0 w l) : ∃ v, W.heap[bo]? = some (.cells #[v] tb (0, 0)) ∧ Sat B0 D0 W (ownS e size v pre.length (pre.flatMap f) :: l) := by
  obtain ⟨h1, h2, v, h3⟩ := h
  exact ⟨v, h3.box, hs.own_new h1 h3.own (fun g hg => h2 g (.inr ⟨v, tb, h3.box, hg⟩))⟩

/-- an append inside a fence -/
theorem wpListIn_append_Sat {F : Fence} {n : Nat} {P : Program} {B : World} {D : PH} {l : List HP} (w : World) {ops : Array Oper} {rest : List Oper} {o : Oper} {a : Act} {Q : Exit → Act → World → Prop} (hgd : o.guard = none) (s x : Operand) (t : TypeId)
    (ho : o.op = .call { callee := .builtin .append, args := #[s, x], argTypes := #[t, t] })
    (e : TypeId) (i : TypeInfo) (z : Value) (size bytes : Nat) (ht : P.underlying t = some (.slice e)) (hi : P.info? e = some i) (hz : i.zero = some z)
    (hsize : i.size = size) (hby : i.bytes = bytes) (hzs : z.cells.size = size)
    (v : Value) (k : Nat) (xs : List Value) (hv : a.eval s = v) (hs : Sat B D w (ownS e size v k xs :: l)) (xv : Value) (m : Nat) (news : List Value) (hx : a.eval x = xv) (hrd : Rd w size xv m news) (h1 : ∀ u ∈ news, u.oneCell' = true)
    (h63 : k + m ≤ maxLen) (hbytes : (k + m) * bytes ≤ 140737488355328)
    (h : ∀ v' w', Sat B D w' (ownS e size v' (k + m) (xs ++ news) :: l) → v'.oneCell' = true → wpListIn F n P ops Q rest (a.put o.dst v') w') : wpListIn F n P ops Q (o :: rest) a w := by
  refine wpListIn_plain hgd fun K hK => ?_
  obtain ⟨v', w', hr, ho', hk, hb, _, _⟩ := run_append_Rd (P := P) w t o.type e i z size bytes ht hi hz hsize hby hzs v k xs (hs.own 0 rfl) xv m news hrd h1 h63 hbytes
  unfold Oper.wpIn
  refine ⟨by simp [Oper.about, ho, resolve, Target.leads, Sem.run_pure], ?_⟩
  rw [Oper.semAt_plain F _ _ (by rw [ho]; intro c hc'; cases hc')]
  simp [execOp, ho, resolve, invoke, builtin, hv, hx, hr, Result.andThen]
  refine hK _ _ (h v' w' (hs.own_step hk ho' (hb.imp (fun h => h) (fun hb g hg => ?_))) ?_)
  · rw [hb.1] at hg
    exact Nat.le_of_eq (Option.some.inj hg)
  · rcases ho'.2.2 with ⟨h2, _⟩ | ⟨g, cap, cur, h2, _⟩ <;> rw [h2] <;> rfl
/-- a box lies as it lay -/
theorem box_ownFrom {b : Nat} {cs : Array Value} {t : TypeId} {row : Option Nat} (h : W.heap[b]? = some (.cells cs t (0, 0))) (hg : W.grownBy W' row) (hr : ∀ r, row = some r → B ≤ r ∧ ∃ o : Obj, W.heap[r]? = some o ∧ o.isCells = false) : W'.heap[b]? = some (.cells cs t (0, 0)) :=
  (hg.block b (lt_of_heap h) (fun he => by obtain ⟨_, o, ho, hc⟩ := hr b he.symm; rw [h] at ho; cases ho; cases hc)).trans h
end
end Go.Proofs.Ytjijemeabfiipaa

/- The tree: Range, and what it hands back. -/
namespace Go.Proofs.Ytjijemeabfiipaa
open Go.ChangeShapes Go.WideShapes Go.ChangeAt Go.RowKit
set_option maxRecDepth 100000
set_option linter.unusedSimpArgs false

/-- where a tree is owned, it may be read from a heap that has its cells -/
theorem TreeA.pool {B w : World} {D E : PH} {t : Nat} {T : TM} {l : List HP} (h : TreeA B D w t T l) (hE : PH.le (cellsOf (heapOf w)) E) : TreeP E t T := by
  obtain ⟨nv, fv, ns, hns, hs⟩ := h
  refine ⟨nv, fv, ns, hns, fun W hW => ⟨[], Sat.inPool (l := [blk t (treeCells nv fv T.k) tT, ownS tN 4 nv ns.length (ns.flatMap nodeCells), kidsP fv T.free, group (ns.map nodeP)]) (l' := l) hs ?_ hE hW⟩⟩
  intro A hA
  simp only [List.mem_cons, List.not_mem_nil, or_false] at hA
  rcases hA with rfl | rfl | rfl | rfl
  · exact inCells_blk _ _ _
  · exact inCells_own _ _ _ _ _
  · exact inCells_own _ _ _ _ _
  · refine inCells_group (fun A hA => ?_)
    obtain ⟨p, _, rfl⟩ := List.mem_map.1 hA
    refine inCells_group (fun A hA => ?_)
    simp only [List.mem_cons, List.not_mem_nil, or_false] at hA
    rcases hA with rfl | rfl | rfl <;> exact inCells_own _ _ _ _ _

theorem TreeA.own_new {B w w' : World} {D : PH} {t : Nat} {T : TM} {l : List HP} {e : TypeId} {size n : Nat} {v : Value} {xs : List Value} (h : TreeA B D w t T l) (k : Kept (fun _ => False) w w') (H : Own w' e size v n xs) (hn : ∀ g, v.ownBlock = some g → w.heap.size ≤ g) : TreeA B D w' t T (ownS e size v n xs :: l) := by
  obtain ⟨nv, fv, ns, hns, hs⟩ := h
  exact ⟨nv, fv, ns, hns, (Sat.own_new hs k H hn).perm (List.perm_middle (l₁ := [blk t (treeCells nv fv T.k) tT, ownS tN 4 nv ns.length (ns.flatMap nodeCells), kidsP fv T.free, group (ns.map nodeP)]) (a := ownS e size v n xs) (l₂ := l)).symm⟩

/-- what a tree tells of a span -/
def TM.Tells (T : TM) (s : Spn) (q : List (Val × VT)) : Prop := (q = [] ∧ (T.k.root < 0 ∨ s.no = true)) ∨ ∃ r : Nat, T.k.root = (r : Int) ∧ s.no = false ∧ T.Walks s r q

/-- the function that Range hands back -/
abbrev rngV (b1 b2 : Nat) : Value := .func (.func 32) #[] #[.pointer (some ⟨b1, 0, none⟩), .pointer (some ⟨b2, 0, none⟩)]

theorem infoSeq : Try.prog.underlying 36 = some (.func #[32] #[] false) := by kernel_rfl
theorem run_equalIn_func_nil {P : Program} (w : World) (d : Nat) (t : TypeId) (ps rs : Array TypeId) (v : Bool) (f : Fn) (x y : Array Value) (h : P.underlying t = some (.func ps rs v)) :
    (Op.equalIn (d + 1) t (.func f x y) .nilFunc).run P w = .ok false w := by
  simp [Op.equalIn, run_underlying h]
theorem run_eql_func_nil {P : Program} (w : World) (t : TypeId) (ps rs : Array TypeId) (v : Bool) (f : Fn) (x y : Array Value) (h : P.underlying t = some (.func ps rs v)) :
    (binOp .eql t (.func f x y) .nilFunc).run P w = .ok (.bool false) w := by
  simp only [binOp]
  simp [Op.equal, Op.maxDepth, run_equalIn_func_nil w 9999 t ps rs v f x y h]
/-- what Range hands back is something -/
@[go_sem] theorem run_eql_rng (w : World) (b1 b2 : Nat) : (binOp .eql 36 (rngV b1 b2) .nilFunc).run Try.prog w = .ok (.bool false) w := run_eql_func_nil _ _ _ _ _ _ _ _ infoSeq

set_option maxHeartbeats 1000000 in
theorem range_ok (p : Option Addr) (s : Spn) (w : World) :
    Calls Try.prog 14 #[.pointer p, s.v] w fun e w' => ∃ b1 b2, e = .returned (rngV b1 b2) ∧ Kept (fun _ => False) w w' ∧ w'.heap[b1]? = some (.cells #[.pointer p] 28 (0, 0)) ∧ w'.heap[b2]? = some (.cells s.cells tS (0, 0)) ∧ w.heap.size ≤ b1 ∧ w.heap.size ≤ b2 := by
  have hk : Kept (fun _ => False) w ((w.alloc (.cells #[.pointer p] 28)).alloc (.cells s.cells tS)) := ((Kept.refl _ _).alloc _).alloc _
  have h1 : ((w.alloc (.cells #[.pointer p] 28)).alloc (.cells s.cells tS)).heap[w.heap.size]? = some (.cells #[.pointer p] 28 (0, 0)) := heap_alloc_lt (heap_alloc_self w _)
  have h2 : ((w.alloc (.cells #[.pointer p] 28)).alloc (.cells s.cells tS)).heap[w.heap.size + 1]? = some (.cells s.cells tS (0, 0)) := by
    have := heap_alloc_self (w.alloc (.cells #[.pointer p] 28)) (.cells s.cells tS)
    rwa [World.size_alloc] at this
  have HK := Lib.hid (And.intro hk (And.intro h1 h2))
  clear hk h1 h2
  dsimp only [Spn.v]
  go_enter Try.func14, Try.ntmps14
  go_wp2_with (fail)
  go_ret
  exact ⟨_, _, rfl, HK.out.1, HK.out.2.1, HK.out.2.2, Nat.le_refl _, Nat.le_succ _⟩

set_option maxHeartbeats 2000000 in
theorem range1_ok {n₀ : Nat} {Ow : World → Nat → Prop} (hO : Owner n₀ Ow) {t l b1 b2 : Nat} {T : TM} {s : Spn} {q : List (Val × VT)} {J Jx : List (Val × VT) → World → Prop} {D : PH}
    (hJ : ∀ pre W W', J pre W → Kept (fun _ => False) W W' → J pre W')
    (hY : ∀ n pre x W, J pre W → pre.length < q.length → YieldAt Fence.wide n Try.prog l #[x.1.v, .int .i64 x.2] W fun e W' => (e = .returned (.bool true) ∧ J (pre ++ [x]) W' ∧ KpO Ow W W') ∨ (e = .returned (.bool false) ∧ Jx (pre ++ [x]) W'))
    (hT : TreeP D t T) (hw : T.Tells s q) (h1 : D b1 = some (.cells #[.pointer (some ⟨t, 0, none⟩)] 28 (0, 0))) (h2 : D b2 = some (.cells s.cells tS (0, 0))) (W : World) (hj : J [] W) (hit : ItOk n₀ Ow D W) :
    Calls Try.prog 32 #[.func (.yield l) #[] #[], .pointer (some ⟨b1, 0, none⟩), .pointer (some ⟨b2, 0, none⟩)] W fun e W' => (∃ v, e = .returned v) ∧ ((∃ xs, xs = q ∧ J xs W') ∨ (∃ pre, pre <+: q ∧ Jx pre W')) := by
  obtain ⟨p0, pf⟩ := cells1 (hit.le _ _ h1)
  obtain ⟨s0, s1, s2, s3, s4, s5, s6, s7, s8, s9, s10⟩ := Spn.at (s := s) (hit.le _ _ h2)
  have hTt := hT
  obtain ⟨nv, fv, ns, hns, hTS⟩ := hTt
  obtain ⟨l0, hs0⟩ := hTS W hit.le
  obtain ⟨t0, t1, t2, t3, t4, tf⟩ := hs0.tcells
  have HJ := Lib.hid hj
  rcases hw with ⟨rfl, hroot | hno⟩ | ⟨r, hroot, hno, hwk⟩
  · have hr0 : ¬ (T.k.root ≥ 0) := by omega
    clear hJ hY hs0 hTS hns hit h1 h2 hT hj hO
    go_enter Try.func32, Try.ntmps32
    go_wp2_with (fail)
    go_end0
    first
    | exact ⟨⟨_, rfl⟩, .inl ⟨_, rfl, HJ.out⟩⟩
    | exact ⟨⟨_, rfl⟩, .inl HJ.out⟩
  · rw [hno] at s0
    clear hJ hY hs0 hTS hns hit h1 h2 hT hj hO
    by_cases hr0 : T.k.root ≥ 0
    all_goals
      go_enter Try.func32, Try.ntmps32
      go_wp2_with (fail)
      go_end0
      first
      | exact ⟨⟨_, rfl⟩, .inl ⟨_, rfl, HJ.out⟩⟩
      | exact ⟨⟨_, rfl⟩, .inl HJ.out⟩
  · rw [hno] at s0
    rw [hroot] at t2
    have hr0 : (r : Int) ≥ 0 := by omega
    have HTH := Lib.hid (through_ok (N := q.length) hO hJ hY hwk D hT [] W.drew (hJ _ _ _ hj ((Kept.refl _ _).drew)) (by simp) (hit.kept hO ((Kept.refl _ _).drew)))
    clear hJ hY hs0 hTS hns hit h1 h2 hT hj hO hwk
    go_enter Try.func32, Try.ntmps32
    go_upto_region 1 with (fail)
    rw [← hno] at s0
    clear hno
    refine wp_region_canon [(0, false, 7), (1, false, 7), (2, false, 7), (3, false, 7), (4, false, 7), (5, false, 7), (6, false, 7), (7, true, 0)] (by kernel_rfl) (by kernel_rfl) ?_
    iterate 7 (refine wpCan_read rfl rfl (fun K hK => ?_); go_simp; refine hK _ ?_; clear hK K)
    refine wpCan_eff rfl ?_
    refine wpList_do rfl (fun K hK => ?_)
    go_simp
    refine HTH.out.mono ?_
    rintro e6 w6 (⟨rfl, h, -⟩ | ⟨rfl, p, hp, h⟩)
    · have H6 := Lib.hid (Or.inl ⟨q, rfl, h⟩ : (∃ xs, xs = q ∧ J xs w6) ∨ (∃ pre, pre <+: q ∧ Jx pre w6))
      clear h s0 s1 s2 s3 s4 s5 s6 s7 s8 s9 s10 t0 t1 t2 t3 t4 tf p0 pf
      refine hK _ _ ?_
      clear hK K
      refine wpList_nil ?_
      refine And.intro ?_ ?_
      · go_simp
      refine wpCan_nil ?_
      go_wp2_with fail
      go_end0
      exact ⟨⟨_, rfl⟩, H6.out⟩
    · have H6 := Lib.hid (Or.inr ⟨p, hp, h⟩ : (∃ xs, xs = q ∧ J xs w6) ∨ (∃ pre, pre <+: q ∧ Jx pre w6))
      clear h s0 s1 s2 s3 s4 s5 s6 s7 s8 s9 s10 t0 t1 t2 t3 t4 tf p0 pf
      refine hK _ _ ?_
      clear hK K
      refine wpList_nil ?_
      refine And.intro ?_ ?_
      · go_simp
      refine wpCan_nil ?_
      go_wp2_with fail
      go_end0
      exact ⟨⟨_, rfl⟩, H6.out⟩

/-- what Range hands back, as an iterator -/
theorem range_stops {n₀ : Nat} {Ow : World → Nat → Prop} (hO : Owner n₀ Ow) {t b1 b2 : Nat} {T : TM} {s : Spn} {q : List (Val × VT)} {D : PH} {w : World} (n : Nat)
    (hT : TreeP D t T) (hw : T.Tells s q) (h1 : D b1 = some (.cells #[.pointer (some ⟨t, 0, none⟩)] 28 (0, 0))) (h2 : D b2 = some (.cells s.cells tS (0, 0))) (hit : ∀ W, Below w.heap.size w W → ItOk n₀ Ow D W) :
    SeqStopsK Fence.wide n Try.prog 32 #[.pointer (some ⟨b1, 0, none⟩), .pointer (some ⟨b2, 0, none⟩)] (fun x : Val × VT => #[x.1.v, .int .i64 x.2]) (KpO Ow) (fun xs => xs = q) (fun pre => pre <+: q) q.length w := fun l J Jx W hW hJ _ hY h0 =>
  callsIn_wide.2 (range1_ok hO (fun pre W W' h k => hJ pre W W' none h k.grown (fun r e => by cases e)) (fun m pre x W hj hl => Proofs.Ytjijemeabfiipaa.YieldAt.anyDepth rfl m (hY pre x W hj hl)) hT hw h1 h2 W h0 (hit W hW))
end Go.Proofs.Ytjijemeabfiipaa
