/- Contracts of the reference package of layer 8: Fits, Covers. No conditions. -/
import Derived.Test.YtokcpmeoiblpfaaDoorKit
namespace Go.Proofs.YtokcpmeoiblpfaaDoor
open Go.ChangeShapes Go.WideShapes Go.ChangeAt Go.RowKit

def fitsTab : List (List Bool) := [[true, true, true, true, true, false], [true, true, false, false, false, false], [true, false, true, false, true, false], [true, false, false, false, false, false], [true, false, true, false, false, false], [false, false, false, false, false, false]]
def fitsB (a b : Int) : Bool :=
  if a < 0 ∨ 6 < a ∨ b < 0 ∨ 6 < b then false else if a = 0 ∨ b = 0 then true else (fitsTab.getD (a - 1).toNat []).getD (b - 1).toNat false
theorem fitsB_out {a b : Int} (h : a < 0 ∨ 6 < a ∨ b < 0 ∨ 6 < b) : fitsB a b = false := by unfold fitsB; rw [if_pos h]

theorem fits_out (a b : Int) (h : a < 0 ∨ 6 < a ∨ b < 0 ∨ 6 < b) (w : World) :
    Calls Tryd.prog 13 #[.int .i64 a, .int .i64 b] w fun e w' => e = .returned (.bool false) ∧ w = w' := by
  rcases h with h | h | h | h
  · go_enter Tryd.func13, Tryd.ntmps13
    go_wp2
    go_ret
    exact ⟨rfl, rfl⟩
  · have h0 : ¬ a < 0 := by omega
    go_enter Tryd.func13, Tryd.ntmps13
    go_wp2
    go_ret
    exact ⟨rfl, rfl⟩
  · by_cases h0 : a < 0 <;> by_cases h1 : 6 < a
    all_goals
      go_enter Tryd.func13, Tryd.ntmps13
      go_wp2
      all_goals go_ret
      all_goals exact ⟨rfl, rfl⟩
  · have h2 : ¬ b < 0 := by omega
    by_cases h0 : a < 0 <;> by_cases h1 : 6 < a
    all_goals
      go_enter Tryd.func13, Tryd.ntmps13
      go_wp2
      all_goals go_ret
      all_goals exact ⟨rfl, rfl⟩

theorem cases6 {a : Int} (h0 : 0 ≤ a) (h6 : a ≤ 6) : a = 0 ∨ a = 1 ∨ a = 2 ∨ a = 3 ∨ a = 4 ∨ a = 5 ∨ a = 6 := by omega

set_option maxHeartbeats 4000000 in
theorem fits_in (a b : Int) (h0 : 0 ≤ a) (h6 : a ≤ 6) (k0 : 0 ≤ b) (k6 : b ≤ 6) (w : World) :
    Calls Tryd.prog 13 #[.int .i64 a, .int .i64 b] w fun e w' => e = .returned (.bool (fitsB a b)) ∧ Below w.heap.size w w' := by
  rcases cases6 h0 h6 with rfl | rfl | rfl | rfl | rfl | rfl | rfl <;> rcases cases6 k0 k6 with rfl | rfl | rfl | rfl | rfl | rfl | rfl
  all_goals
    clear h0 h6 k0 k6
    go_enter Tryd.func13, Tryd.ntmps13
    go_wp2
    go_ret
    exact ⟨rfl, by first | exact Below.refl _ _ | exact (Below.refl _ _).alloc (Nat.le_refl _) _⟩
end Go.Proofs.YtokcpmeoiblpfaaDoor
