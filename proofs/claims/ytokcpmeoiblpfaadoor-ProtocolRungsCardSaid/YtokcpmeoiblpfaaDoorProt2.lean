/- Contracts of the reference of layer 14 and of the law's own examples ('awake'). -/
import Derived.Test.YtokcpmeoiblpfaaDoorProt
import Derived.Test.YtokcpmeoiblpfaaDoorRef08b
namespace Go.Proofs.YtokcpmeoiblpfaaDoor
open Go.ChangeShapes Go.WideShapes Go.ChangeAt Go.RowKit

def splitL (l : Int) : Prop := (l < 1 ∨ 5 < l) ∨ l = 1 ∨ l = 2 ∨ l = 3 ∨ l = 4 ∨ l = 5

set_option maxHeartbeats 1000000 in
theorem refGet (l : Int) (w : World) :
    Calls Tryd.prog 15 #[.int .i64 l] w fun e w' => e = .returned (.tuple #[.int .i64 (cl l 0), .int .i64 (cl l 1)]) ∧ w = w' := by
  rcases cases5 l with (hl | hl) | rfl | rfl | rfl | rfl | rfl
  iterate 2
    simp only [cl_out (l := l) (by omega)]
    have e1 : (l == 1) = false := beq_eq_false_iff_ne.2 (by omega)
    have e2 : (l == 2) = false := beq_eq_false_iff_ne.2 (by omega)
    have e3 : (l == 3) = false := beq_eq_false_iff_ne.2 (by omega)
    have e4 : (l == 4) = false := beq_eq_false_iff_ne.2 (by omega)
    have e5 : (l == 5) = false := beq_eq_false_iff_ne.2 (by omega)
    rotate_left
  rotate_right 2
  all_goals
    go_enter Tryd.func15, Tryd.ntmps15
    go_wp2
    go_ret2
    exact ⟨rfl, rfl⟩

set_option maxHeartbeats 1000000 in
theorem refRows (l : Int) (w : World) :
    Calls Tryd.prog 17 #[.int .i64 l] w fun e w' => e = .returned (.tuple #[.int .i64 (cl l 2), .int .i64 (cl l 3)]) ∧ w = w' := by
  rcases cases5 l with (hl | hl) | rfl | rfl | rfl | rfl | rfl
  iterate 2
    simp only [cl_out (l := l) (by omega)]
    have e1 : (l == 1) = false := beq_eq_false_iff_ne.2 (by omega)
    have e2 : (l == 2) = false := beq_eq_false_iff_ne.2 (by omega)
    have e3 : (l == 3) = false := beq_eq_false_iff_ne.2 (by omega)
    have e4 : (l == 4) = false := beq_eq_false_iff_ne.2 (by omega)
    have e5 : (l == 5) = false := beq_eq_false_iff_ne.2 (by omega)
    rotate_left
  rotate_right 2
  all_goals
    go_enter Tryd.func17, Tryd.ntmps17
    go_wp2
    go_ret2
    exact ⟨rfl, rfl⟩

set_option maxHeartbeats 1000000 in
theorem refFetchNo (l : Int) (w : World) :
    Calls Tryd.prog 18 #[.int .i64 l, .bool false] w fun e w' => e = .returned (.tuple #[.int .i64 (cl l 4), .int .i64 (cl l 5)]) ∧ w = w' := by
  rcases cases5 l with (hl | hl) | rfl | rfl | rfl | rfl | rfl
  iterate 2
    simp only [cl_out (l := l) (by omega)]
    have e1 : (l == 1) = false := beq_eq_false_iff_ne.2 (by omega)
    have e2 : (l == 2) = false := beq_eq_false_iff_ne.2 (by omega)
    have e3 : (l == 3) = false := beq_eq_false_iff_ne.2 (by omega)
    have e4 : (l == 4) = false := beq_eq_false_iff_ne.2 (by omega)
    have e5 : (l == 5) = false := beq_eq_false_iff_ne.2 (by omega)
    rotate_left
  rotate_right 2
  all_goals
    go_enter Tryd.func18, Tryd.ntmps18
    go_wp2
    go_ret2
    exact ⟨rfl, rfl⟩

set_option maxHeartbeats 1000000 in
theorem refFetchYes (l : Int) (w : World) :
    Calls Tryd.prog 18 #[.int .i64 l, .bool true] w fun e w' => e = .returned (.tuple #[.int .i64 (cl l 6), .int .i64 (cl l 7)]) ∧ w = w' := by
  rcases cases5 l with (hl | hl) | rfl | rfl | rfl | rfl | rfl
  iterate 2
    simp only [cl_out (l := l) (by omega)]
    have e1 : (l == 1) = false := beq_eq_false_iff_ne.2 (by omega)
    have e2 : (l == 2) = false := beq_eq_false_iff_ne.2 (by omega)
    have e3 : (l == 3) = false := beq_eq_false_iff_ne.2 (by omega)
    have e4 : (l == 4) = false := beq_eq_false_iff_ne.2 (by omega)
    have e5 : (l == 5) = false := beq_eq_false_iff_ne.2 (by omega)
    rotate_left
  rotate_right 2
  all_goals
    go_enter Tryd.func18, Tryd.ntmps18
    go_wp2
    go_ret2
    exact ⟨rfl, rfl⟩

set_option maxHeartbeats 1000000 in
theorem refScan (l : Int) (w : World) :
    Calls Tryd.prog 19 #[.int .i64 l] w fun e w' => e = .returned (.int .i64 (cl l 8)) ∧ w = w' := by
  rcases cases5 l with (hl | hl) | rfl | rfl | rfl | rfl | rfl
  iterate 2
    simp only [cl_out (l := l) (by omega)]
    have e1 : (l == 1) = false := beq_eq_false_iff_ne.2 (by omega)
    have e2 : (l == 2) = false := beq_eq_false_iff_ne.2 (by omega)
    have e3 : (l == 3) = false := beq_eq_false_iff_ne.2 (by omega)
    have e4 : (l == 4) = false := beq_eq_false_iff_ne.2 (by omega)
    have e5 : (l == 5) = false := beq_eq_false_iff_ne.2 (by omega)
    rotate_left
  rotate_right 2
  all_goals
    go_enter Tryd.func19, Tryd.ntmps19
    go_wp2
    go_ret
    exact ⟨rfl, rfl⟩

set_option maxHeartbeats 1000000 in
theorem refName (l : Int) (w : World) :
    Calls Tryd.prog 20 #[.int .i64 l] w fun e w' => e = .returned (.string (nm l)) ∧ w = w' := by
  rcases cases5 l with (hl | hl) | rfl | rfl | rfl | rfl | rfl
  iterate 2
    simp only [nm_out (l := l) (by omega)]
    have e1 : (l == 1) = false := beq_eq_false_iff_ne.2 (by omega)
    have e2 : (l == 2) = false := beq_eq_false_iff_ne.2 (by omega)
    have e3 : (l == 3) = false := beq_eq_false_iff_ne.2 (by omega)
    have e4 : (l == 4) = false := beq_eq_false_iff_ne.2 (by omega)
    have e5 : (l == 5) = false := beq_eq_false_iff_ne.2 (by omega)
    rotate_left
  rotate_right 2
  all_goals
    go_enter Tryd.func20, Tryd.ntmps20
    go_wp2
    go_ret
    exact ⟨rfl, rfl⟩

set_option maxHeartbeats 1000000 in
theorem awake14 (w : World) (h : Tb w) :
    Calls Tryd.prog 7 #[] w fun e w' => e = .returned (.bool true) ∧ Below w.heap.size w w' := by
  have hz := h.pos
  go_enter Tryd.func7, Tryd.ntmps7
  go_wp2_with fail
  refine (get_any 3 _ h).mono ?_
  rintro e w1 ⟨rfl, hb⟩
  have h1 := h.below hb
  rw [show cl 3 0 = 3 from rfl, show cl 3 1 = 1 from rfl]
  go_wp2_with fail
  refine (fetch_no 3 _ h1).mono ?_
  rintro e w2 ⟨rfl, hb2⟩
  have h2 := h1.below hb2
  rw [show cl 3 4 = 3 from rfl, show cl 3 5 = 2 from rfl]
  go_wp2_with fail
  refine (scan_any 5 _ h2).mono ?_
  rintro e w3 ⟨rfl, hb3⟩
  have h3 := h2.below hb3
  rw [show cl 5 8 = 3 from rfl]
  go_wp2_with fail
  refine (name_any 4 _ h3).mono ?_
  rintro e w4 ⟨rfl, hb4⟩
  rw [show nm 4 = ⟨#[80, 76, 45, 50, 46, 57, 57]⟩ from rfl]
  go_wp2_with fail
  go_ret
  have b2 := hb.trans (hb2.mono hb.size)
  have b3 := b2.trans (hb3.mono b2.size)
  exact ⟨rfl, b3.trans (hb4.mono b3.size)⟩

end Go.Proofs.YtokcpmeoiblpfaaDoor
