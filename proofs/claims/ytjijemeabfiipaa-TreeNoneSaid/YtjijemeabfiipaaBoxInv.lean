/- Of no program: the invariant of a loop over an iterator whose body appends to a row in a box. -/
import Derived.Test.YtjijemeabfiipaaBoxRow
import Derived.Shelf.Abstract
namespace Go.Proofs.Ytjijemeabfiipaa
open Go.ChangeShapes Go.WideShapes Go.ChangeAt Go.RowKit
set_option linter.unusedSimpArgs false

section
variable {w W W' : World} {bo n₀ B : Nat} {tb e : TypeId} {size n : Nat} {v v' : Value} {xs : List Value} {α : Type} {f : α → List Value} {pre : List α} {l : List HP}
theorem KpO.of_kept {Ow : World → Nat → Prop} (hO : Owner n₀ Ow) (hn : n₀ ≤ W.heap.size) (k : Kept (fun _ => False) W W') : KpO Ow W W' where
  size := k.size
  same := fun b _ _ _ h _ => (k.block b (lt_of_heap h) (fun h => h)).trans h
  back := fun b hb => .inl (hO.stay W W' hn k b hb)
  fit := fun hf b hb => Nat.lt_of_lt_of_le (hf b (hO.stay W W' hn k b hb)) k.size
theorem keepsFrom_kept (k : Kept (fun _ => False) W W') (B : Nat) : KeepsFrom B W W' := ⟨k.size, fun b _ _ h _ => (k.block b (lt_of_heap h) (fun h => h)).trans h⟩

theorem OwB.lt (h : BoxRow W bo tb e size v n xs) {k : Nat} (hk : OwB bo W k) : k < W.heap.size := by
  rcases h.ow hk with hk | hk
  · rw [hk]; exact lt_of_heap h.box
  · exact h.own.lt k hk
theorem OwB.cells (h : BoxRow W bo tb e size v n xs) {k : Nat} (hk : OwB bo W k) : ∃ cs t fr, W.heap[k]? = some (.cells cs t fr) := by
  rcases h.ow hk with hk | hk
  · rw [hk]; exact ⟨_, _, _, h.box⟩
  · rcases h.own.2.2 with ⟨q, _⟩ | ⟨g', cap, cur, q1, q2, _⟩
    · rw [q] at hk; cases hk
    · rw [q1] at hk
      have : g' = k := by simpa [Value.ownBlock] using hk
      subst this
      exact ⟨_, _, _, q2⟩
theorem OwB.same (hb : W'.heap[bo]? = W.heap[bo]?) {k : Nat} (hk : OwB bo W' k) : OwB bo W k := hk.imp (fun h => h) (fun ⟨v, t, h1, h2⟩ => ⟨v, t, by rw [← hb]; exact h1, h2⟩)

open Classical in
/-- what an iterator may read beside the row -/
theorem BoxRow.iter (h : BoxRow W bo tb e size v n xs) : ∃ E : PH, (∀ k cs t fr, W.heap[k]? = some (.cells cs t fr) → ¬ OwB bo W k → E k = some (.cells cs t fr)) ∧ ∀ W', Below W.heap.size W W' → ItOk W.heap.size (OwB bo) E W' := by
  refine ⟨fun k => if OwB bo W k then none else cellsOf (heapOf W) k, fun k cs t fr hk hn => ?_, fun W' hb => ?_⟩
  · dsimp only; rw [if_neg hn]; exact cellsOf_eq hk
  · have hbo : W'.heap[bo]? = W.heap[bo]? := hb.block bo (lt_of_heap h.box)
    refine ⟨fun k o hk => ?_, fun k o hk => ?_, fun k hk => ?_, hb.size⟩
    · split at hk
      · cases hk
      · have := cellsOf_le _ _ _ hk
        exact (hb.block k (lt_of_heap this)).trans this
    · split at hk
      · cases hk
      · rename_i hn
        exact ⟨cellsOf_cells hk, fun ho => hn (OwB.same hbo ho)⟩
    · exact Nat.lt_of_lt_of_le (OwB.lt h (OwB.same hbo hk)) hb.size

/-- the row in the box has what came so far; nothing that lay in w has turned -/
structure Inv (w : World) (bo : Nat) (tb e : TypeId) (size : Nat) (f : α → List Value) (pre : List α) (W : World) : Prop where
  kept : Kept (fun _ => False) w W
  new : ∀ k, OwB bo W k → w.heap.size ≤ k
  row : ∃ v, BoxRow W bo tb e size v pre.length (pre.flatMap f)
theorem Inv.frame (h : Inv w bo tb e size f pre W) (hk : Kept (fun _ => False) W W') : Inv w bo tb e size f pre W' := by
  obtain ⟨h1, h2, v, h3⟩ := h
  have hb : W'.heap[bo]? = W.heap[bo]? := hk.block bo (lt_of_heap h3.box) (fun h => h)
  exact ⟨h1.trans hk (fun _ h => h.elim), fun k ho => h2 k (OwB.same hb ho), v, h3.frame (fun k _ hlt => hk.block k hlt (fun h => h))⟩
theorem Inv.ownFrom (hw : w.heap.size ≤ B) (hbo : bo < B) : OwnFrom B (Inv w bo tb e size f) := by
  intro pre W W' row h hg hr
  obtain ⟨h1, h2, v, h3⟩ := h
  have hb : W'.heap[bo]? = W.heap[bo]? := hg.block bo (lt_of_heap h3.box) (fun he => by have := (hr bo he.symm).1; omega)
  refine ⟨h1.trans ⟨hg.os, hg.tape, hg.output, hg.size, fun k hk hn => hg.block k hk hn⟩ (fun k hk => .inr (by have := (hr k hk.symm).1; omega)), fun k ho => h2 k (OwB.same hb ho), v, h3.frame (fun k ho hlt => hg.block k hlt (fun he => ?_))⟩
  obtain ⟨_, o, ho', hc⟩ := hr k he.symm
  obtain ⟨cs, t, fr, hcs⟩ := OwB.cells h3 ho
  rw [hcs] at ho'
  cases ho'
  cases hc
/-- behind a round -/
theorem Inv.next (h : Inv w bo tb e size f pre W) (hb : BoxRow W bo tb e size v n xs) {D : PH} (hD : ∀ k o, D k = some o ↔ (¬ OwB bo W k ∧ heapOf W k = some o)) {x : α}
    (hs : Sat W D W' (blk bo #[v'] tb :: ownS e size v' (pre ++ [x]).length ((pre ++ [x]).flatMap f) :: l)) : KeepsFrom B W W' ∧ KpO (OwB bo) W W' ∧ Inv w bo tb e size f (pre ++ [x]) W' := by
  obtain ⟨a, b, c, d, g⟩ := hb.back hD hs
  refine ⟨c.from B, b, ⟨h.kept.trans d (fun k hk => .inr (h.new k hk)), fun k hk => ?_, v', a⟩⟩
  rcases g k hk with hk | hk
  · exact h.new k hk
  · exact Nat.le_trans h.kept.size hk
/-- at the beginning -/
theorem Inv.start (hk : Kept (fun _ => False) w W) (hb : W.heap[bo]? = some (.cells #[.slice none 0 0] tb (0, 0))) (hbo : w.heap.size ≤ bo) : Inv w bo tb e size f [] W := by
  refine ⟨hk, fun k ho => ?_, _, hb, Own.nil _ _ _, fun h => by cases h⟩
  rcases ho with rfl | ⟨v, t, h1, h2⟩
  · exact hbo
  · rw [hb] at h1; cases h1; cases h2
/-- at the end -/
theorem Inv.done {B0 : World} {D0 : PH} (h : Inv w bo tb e size f pre W) (hs : Sat B0 D0 w l) : ∃ v, W.heap[bo]? = some (.cells #[v] tb (0, 0)) ∧ Sat B0 D0 W (ownS e size v pre.length (pre.flatMap f) :: l) := by
  obtain ⟨h1, h2, v, h3⟩ := h
  exact ⟨v, h3.box, hs.own_new h1 h3.own (fun g hg => h2 g (.inr ⟨v, tb, h3.box, hg⟩))⟩

/-- an append inside a fence -/
theorem wpListIn_append_Sat {F : Fence} {n : Nat} {P : Program} {B : World} {D : PH} {l : List HP} (w : World) {ops : Array Oper} {rest : List Oper} {o : Oper} {a : Act} {Q : Exit → Act → World → Prop} (hgd : o.guard = none) (s x : Operand) (t : TypeId)
    (ho : o.op = .call { callee := .builtin .append, args := #[s, x], argTypes := #[t, t] })
    (e : TypeId) (i : TypeInfo) (z : Value) (size bytes : Nat) (ht : P.underlying t = some (.slice e)) (hi : P.info? e = some i) (hz : i.zero = some z)
    (hsize : i.size = size) (hby : i.bytes = bytes) (hzs : z.cells.size = size)
    (v : Value) (k : Nat) (xs : List Value) (hv : a.eval s = v) (hs : Sat B D w (ownS e size v k xs :: l)) (xv : Value) (m : Nat) (news : List Value) (hx : a.eval x = xv) (hrd : Rd w size xv m news) (h1 : ∀ u ∈ news, u.oneCell' = true)
    (h63 : k + m ≤ maxLen) (hbytes : (k + m) * bytes ≤ 140737488355328)
    (h : ∀ v' w', Sat B D w' (ownS e size v' (k + m) (xs ++ news) :: l) → v'.oneCell' = true → wpListIn F n P ops Q rest (a.put o.dst v') w') : wpListIn F n P ops Q (o :: rest) a w := by
  refine wpListIn_plain hgd fun K hK => ?_
  obtain ⟨v', w', hr, ho', hk, hb, _, _⟩ := run_append_Rd (P := P) w t o.type e i z size bytes ht hi hz hsize hby hzs v k xs (hs.own 0 rfl) xv m news hrd h1 h63 hbytes
  unfold Oper.wpIn
  refine ⟨by simp [Oper.about, ho, resolve, Target.leads, Sem.run_pure], ?_⟩
  rw [Oper.semAt_plain F _ _ (by rw [ho]; intro c hc'; cases hc')]
  simp [execOp, ho, resolve, invoke, builtin, hv, hx, hr, Result.andThen]
  refine hK _ _ (h v' w' (hs.own_step hk ho' (hb.imp (fun h => h) (fun hb g hg => ?_))) ?_)
  · rw [hb.1] at hg
    exact Nat.le_of_eq (Option.some.inj hg)
  · rcases ho'.2.2 with ⟨h2, _⟩ | ⟨g, cap, cur, h2, _⟩ <;> rw [h2] <;> rfl
/-- a box lies as it lay -/
theorem box_ownFrom {b : Nat} {cs : Array Value} {t : TypeId} {row : Option Nat} (h : W.heap[b]? = some (.cells cs t (0, 0))) (hg : W.grownBy W' row) (hr : ∀ r, row = some r → B ≤ r ∧ ∃ o : Obj, W.heap[r]? = some o ∧ o.isCells = false) : W'.heap[b]? = some (.cells cs t (0, 0)) :=
  (hg.block b (lt_of_heap h) (fun he => by obtain ⟨_, o, ho, hc⟩ := hr b he.symm; rw [h] at ho; cases ho; cases hc)).trans h
end
end Go.Proofs.Ytjijemeabfiipaa
