/- Of no program: what an iterator reads beside a loop's body that owns something of its own. -/
import Derived.Test.YtjijemeabfiipaaCanonIn
import Derived.Test.YtjijemeabfiipaaSepLib
import Derived.RangeFuncNested
import Derived.RangeFuncBound
import Derived.RangeFuncCalls
import Derived.RangeFuncLeaves
import Derived.WalkKit
import Derived.OwnWalkIn
import Derived.TacticsInMore
import Derived.LoopNIn
import Derived.LoopIn
namespace Go.Proofs.Ytjijemeabfiipaa
open Go.ChangeShapes Go.WideShapes Go.ChangeAt Go.RowKit
set_option linter.unusedSimpArgs false

/-- blocks that a loop's body owns: what is laid or turned elsewhere makes them no more -/
structure Owner (n₀ : Nat) (Ow : World → Nat → Prop) : Prop where
  stay : ∀ W W', n₀ ≤ W.heap.size → Kept (fun _ => False) W W' → ∀ k, Ow W' k → Ow W k
  put : ∀ W l (o : Obj), n₀ ≤ l → ∀ k, Ow (W.putObj l o) k → Ow W k
/-- a round's word -/
structure KpO (Ow : World → Nat → Prop) (W W' : World) : Prop where
  size : W.heap.size ≤ W'.heap.size
  same : ∀ k cs t fr, W.heap[k]? = some (.cells cs t fr) → ¬ Ow W k → W'.heap[k]? = some (.cells cs t fr)
  back : ∀ k, Ow W' k → Ow W k ∨ W.heap.size ≤ k
  fit : (∀ k, Ow W k → k < W.heap.size) → ∀ k, Ow W' k → k < W'.heap.size
/-- D may be read by the iterator -/
structure ItOk (n₀ : Nat) (Ow : World → Nat → Prop) (D : PH) (W : World) : Prop where
  le : PH.le D (heapOf W)
  mine : ∀ k o, D k = some o → (∃ cs t fr, o = .cells cs t fr) ∧ ¬ Ow W k
  fit : ∀ k, Ow W k → k < W.heap.size
  ge : n₀ ≤ W.heap.size

section
variable {n₀ : Nat} {Ow : World → Nat → Prop} {D : PH} {W W' X : World}
theorem heapOf_lt {k : Nat} {o : Obj} (h : heapOf W k = some o) : k < W.heap.size := lt_of_heap h
theorem KpO.trans (a : KpO Ow W W') (b : KpO Ow W' X) : KpO Ow W X where
  size := Nat.le_trans a.size b.size
  same := fun k cs t fr h hn => b.same k cs t fr (a.same k cs t fr h hn) (fun ho => by
    rcases a.back k ho with h1 | h1
    · exact hn h1
    · have := lt_of_heap h; omega)
  back := fun k ho => by
    rcases b.back k ho with h1 | h1
    · exact a.back k h1
    · exact .inr (Nat.le_trans a.size h1)
  fit := fun h => b.fit (a.fit h)
theorem KpO.put (hO : Owner n₀ Ow) {l : Nat} {o o' : Obj} (hl : n₀ ≤ l) (h : W.heap[l]? = some o) (hc : o.isCells = false) : KpO Ow W (W.putObj l o') where
  size := by simp
  same := fun k cs t fr hk _ => by
    rw [World.putObj_heap_other (fun e => by subst e; rw [h] at hk; cases hk; cases hc)]
    exact hk
  back := fun k ho => .inl (hO.put W l o' hl k ho)
  fit := fun hf k ho => by have := hf k (hO.put W l o' hl k ho); simpa using this
theorem ItOk.kp (h : ItOk n₀ Ow D W) (k : KpO Ow W W') : ItOk n₀ Ow D W' where
  le := fun b o hb => by
    obtain ⟨⟨cs, t, fr, rfl⟩, hn⟩ := h.mine b o hb
    exact k.same b cs t fr (h.le b _ hb) hn
  mine := fun b o hb => ⟨(h.mine b o hb).1, fun ho => by
    rcases k.back b ho with h1 | h1
    · exact (h.mine b o hb).2 h1
    · have := heapOf_lt (h.le b o hb); omega⟩
  fit := k.fit h.fit
  ge := Nat.le_trans h.ge k.size
theorem ItOk.kept (hO : Owner n₀ Ow) (h : ItOk n₀ Ow D W) (k : Kept (fun _ => False) W W') : ItOk n₀ Ow D W' where
  le := fun b o hb => (k.block b (heapOf_lt (h.le b o hb)) (fun h => h)).trans (h.le b o hb)
  mine := fun b o hb => ⟨(h.mine b o hb).1, fun ho => (h.mine b o hb).2 (hO.stay W W' h.ge k b ho)⟩
  fit := fun b ho => Nat.lt_of_lt_of_le (h.fit b (hO.stay W W' h.ge k b ho)) k.size
  ge := Nat.le_trans h.ge k.size
def PH.with (D : PH) (b : Nat) (o : Obj) : PH := fun x => if x = b then some o else D x
theorem PH.with_self (D : PH) (b : Nat) (o : Obj) : D.with b o b = some o := by simp [PH.with]
/-- a block that was laid since -/
theorem ItOk.new (hO : Owner n₀ Ow) (h : ItOk n₀ Ow D W) (k : Kept (fun _ => False) W W') {b : Nat} {cs : Array Value} {t : TypeId} {fr : Nat × Nat} (hb : W'.heap[b]? = some (.cells cs t fr)) (hge : W.heap.size ≤ b) : ItOk n₀ Ow (D.with b (.cells cs t fr)) W' where
  le := fun x o hx => by
    unfold PH.with at hx
    split at hx
    · rename_i e; subst e; cases hx; exact hb
    · exact (h.kept hO k).le x o hx
  mine := fun x o hx => by
    unfold PH.with at hx
    split at hx
    · rename_i e
      subst e
      cases hx
      exact ⟨⟨_, _, _, rfl⟩, fun ho => by have := h.fit x (hO.stay W W' h.ge k x ho); omega⟩
    · exact (h.kept hO k).mine x o hx
  fit := (h.kept hO k).fit
  ge := (h.kept hO k).ge
theorem ItOk.with_le (h : ItOk n₀ Ow D W) {b : Nat} (o : Obj) (hb : W.heap.size ≤ b) : PH.le D (D.with b o) := fun x p hx => by
  unfold PH.with
  rw [if_neg (fun e => by subst e; have := heapOf_lt (h.le x p hx); omega)]
  exact hx
theorem ItOk.less {D' : PH} (h : ItOk n₀ Ow D' W) (le : PH.le D D') : ItOk n₀ Ow D W where
  le := le.trans h.le
  mine := fun b o hb => h.mine b o (le b o hb)
  fit := h.fit
  ge := h.ge
theorem Kept.grown (k : Kept (fun _ => False) W W') : W.grownBy W' none := ⟨k.os, k.tape, k.output, k.size, fun b hb _ => k.block b hb (fun h => h)⟩
end
end Go.Proofs.Ytjijemeabfiipaa
