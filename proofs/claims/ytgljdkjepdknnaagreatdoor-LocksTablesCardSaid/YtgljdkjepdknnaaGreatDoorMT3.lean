/- The modes of locks: Right, Fits, Covers, Join of the program, over its table of what is against what. -/
import Derived.Test.YtgljdkjepdknnaaGreatDoorMT2
set_option maxHeartbeats 64000000
namespace Go.Proofs.YtgljdkjepdknnaaGreatDoor
open Go.ChangeShapes Go.WideShapes Go.ChangeAt Go.RowKit
set_option maxRecDepth 100000
set_option linter.unusedSimpArgs false
def agCells : List Value := agT.map (fun n : Nat => Value.int .u8 (n : Int))
def Tb (w : World) : Prop := ∀ i x, agCells[i]? = some x → w.cell? ⟨0, i, none⟩ = some x
theorem Tb.kept {w w' : World} (h : Tb w) (hz : 0 < w.heap.size) (k : Kept (fun _ => False) w w') : Tb w' := fun i x hx => by
 rw [← h i x hx]
 unfold World.cell?
 rw [show w'.heap[(⟨0, i, none⟩ : Addr).block]? = w.heap[(⟨0, i, none⟩ : Addr).block]? from k.block _ hz (fun h => h)]
theorem Tb.cells {w : World} (h : Tb w) : w.cell? ⟨0, 0, none⟩ = some (.int .u8 0) ∧ w.cell? ⟨0, 1, none⟩ = some (.int .u8 64) ∧ w.cell? ⟨0, 2, none⟩ = some (.int .u8 120) ∧ w.cell? ⟨0, 3, none⟩ = some (.int .u8 84) ∧ w.cell? ⟨0, 4, none⟩ = some (.int .u8 124) ∧ w.cell? ⟨0, 5, none⟩ = some (.int .u8 116) ∧ w.cell? ⟨0, 6, none⟩ = some (.int .u8 126) :=
 ⟨h 0 _ rfl, h 1 _ rfl, h 2 _ rfl, h 3 _ rfl, h 4 _ rfl, h 5 _ rfl, h 6 _ rfl⟩
theorem m7 (m : Int) (w : World) : Calls Tryz.prog 79 #[.int .i64 m] w fun e w' => e = .returned (.bool (br m)) ∧ w = w' := by
 by_cases h : 0 ≤ m
 ·by_cases h2 : m ≤ 6
  ·have E := BO (show br m = true by unfold br; simp [h, h2])
   go_enter Tryz.func79, Tryz.ntmps79
   go_wp2_with fail
   go_ret
   exact ⟨by rw [E.out]; rfl, rfl⟩
  ·have E := BO (show br m = false by unfold br; simp [h2])
   go_enter Tryz.func79, Tryz.ntmps79
   go_wp2_with fail
   go_ret
   exact ⟨by rw [E.out]; rfl, rfl⟩
 ·have E := BO (show br m = false by unfold br; simp [h])
  go_enter Tryz.func79, Tryz.ntmps79
  go_wp2_with fail
  go_ret
  exact ⟨by rw [E.out]; rfl, rfl⟩
theorem cH {m : Int} {b : Bool} (h : br m = b) (w : World) : Calls Tryz.prog 79 #[.int .i64 m] w fun e w' => e = .returned (.bool b) ∧ w = w' := h ▸ m7 m w
theorem po (a b : Int) (w : World) (h : Tb w) : Calls Tryz.prog 116 #[.int .i64 a, .int .i64 b] w fun e w' => e = .returned (.bool (cK a b)) ∧ w = w' := by
 cases ha : br a
 ·have E := BO (show cK a b = false by unfold cK; simp [ha])
  have HA := BO ha
  clear ha
  go_enter Tryz.func116, Tryz.ntmps116
  go_wp2_with (go_at_call 79; refine (cH HA.out _).mono ?_; rintro e w' ⟨rfl, rfl⟩)
  go_ret
  exact ⟨by rw [E.out]; rfl, rfl⟩
 ·cases hb : br b
  ·have E := BO (show cK a b = false by unfold cK; simp [hb])
   have HA := BO ha
   have HB := BO hb
   clear ha hb
   go_enter Tryz.func116, Tryz.ntmps116
   go_wp2_with (go_at_call 79; first | (refine (cH HA.out _).mono ?_; rintro e w' ⟨rfl, rfl⟩) | (refine (cH HB.out _).mono ?_; rintro e w' ⟨rfl, rfl⟩))
   go_ret
   exact ⟨by rw [E.out]; rfl, rfl⟩
  ·obtain ⟨c0, c1, c2, c3, c4, c5, c6⟩ := h.cells
   clear h
   rcases bB ha with rfl | rfl | rfl | rfl | rfl | rfl | rfl <;> rcases bB hb with rfl | rfl | rfl | rfl | rfl | rfl | rfl
   all_goals
    clear ha hb
    go_enter Tryz.func116, Tryz.ntmps116
    go_wp2_with (go_at_call 79; refine (cH rfl _).mono ?_; rintro e w' ⟨rfl, rfl⟩)
    go_ret
    exact ⟨rfl, rfl⟩
end Go.Proofs.YtgljdkjepdknnaaGreatDoor
