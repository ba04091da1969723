/- The walks of the four laws of layer 14: each returns true, and nothing that was there is changed. -/
import Derived.Test.YtokcpmeoiblpfaaDoorProt2
namespace Go.Proofs.YtokcpmeoiblpfaaDoor
open Go.ChangeShapes Go.WideShapes Go.ChangeAt Go.RowKit

theorem rises_fact {l h : Int} (h1 : 1 ≤ l) (h2 : l ≤ h) (h3 : h ≤ 5) :
    (coversB (cl h 0) (cl l 0) = true ∧ coversB (cl h 2) (cl l 2) = true ∧ coversB (cl h 4) (cl l 4) = true ∧ coversB (cl h 6) (cl l 6) = true) ∧
    (cl l 1 ≤ cl h 1 ∧ cl l 3 ≤ cl h 3 ∧ cl l 5 ≤ cl h 5 ∧ cl l 7 ≤ cl h 7 ∧ cl l 8 ≤ cl h 8) := by
  rcases cases5 l with hl | rfl | rfl | rfl | rfl | rfl <;> rcases cases5 h with hh | rfl | rfl | rfl | rfl | rfl <;> first | omega | decide
theorem cl_mode (l : Int) : (0 ≤ cl l 0 ∧ cl l 0 ≤ 6) ∧ (0 ≤ cl l 2 ∧ cl l 2 ≤ 6) ∧ (0 ≤ cl l 4 ∧ cl l 4 ≤ 6) ∧ (0 ≤ cl l 6 ∧ cl l 6 ≤ 6) := by
  rcases cases5 l with hl | rfl | rfl | rfl | rfl | rfl
  · simp only [cl_out hl]; omega
  all_goals decide

set_option maxHeartbeats 2000000 in
theorem writes_walk (l : Int) (w : World) (h : Tb w) :
    Calls Tryd.prog 3 #[.int .i64 l] w fun e w' => e = .returned (.bool true) ∧ Below w.heap.size w w' := by
  rcases cases5 l with hl | rfl | rfl | rfl | rfl | rfl
  · skip
    have hd : decide (1 ≤ l ∧ l ≤ 5) = false := by simp; omega
    have HD := Lib.hid hd
    clear hd
    go_enter Tryd.func3, Tryd.ntmps3
    have b0 := Below.refl w.heap.size w
    have t0 := h
    go_wp2_with fail
    refine (awake14 _ t0).mono ?_
    rintro e w1 ⟨rfl, k1⟩
    have b1 := b0.trans (k1.mono b0.size)
    have t1 := t0.below b1
    clear k1
    go_wp2_with fail
    refine (write_any _).mono ?_
    rintro e w2 ⟨rfl, rfl⟩
    go_wp2_with fail
    refine (fetch_yes l _ t1).mono ?_
    rintro e w2 ⟨rfl, k2⟩
    have b2 := b1.trans (k2.mono b1.size)
    have t2 := t0.below b2
    clear k2
    rw [cl_out hl, cl_out hl]
    go_wp2_with fail
    refine (right_any l _ t2).mono ?_
    rintro e w3 ⟨rfl, k3⟩
    have b3 := b2.trans (k3.mono b2.size)
    have t3 := t0.below b3
    clear k3
    rw [HD.out]
    go_wp2_with fail
    refine (name_any l _ t3).mono ?_
    rintro e w4 ⟨rfl, k4⟩
    have b4 := b3.trans (k4.mono b3.size)
    have t4 := t0.below b4
    clear k4
    rw [nm_out hl]
    go_wp2_with fail
    refine (scan_any l _ t4).mono ?_
    rintro e w5 ⟨rfl, k5⟩
    have b5 := b4.trans (k5.mono b4.size)
    have t5 := t0.below b5
    clear k5
    rw [cl_out hl]
    go_wp2_with fail
    go_ret
    exact ⟨rfl, b5⟩
  · skip
    go_enter Tryd.func3, Tryd.ntmps3
    have b0 := Below.refl w.heap.size w
    have t0 := h
    go_wp2_with fail
    refine (awake14 _ t0).mono ?_
    rintro e w1 ⟨rfl, k1⟩
    have b1 := b0.trans (k1.mono b0.size)
    have t1 := t0.below b1
    clear k1
    go_wp2_with fail
    refine (write_any _).mono ?_
    rintro e w2 ⟨rfl, rfl⟩
    go_wp2_with fail
    refine (fetch_yes 1 _ t1).mono ?_
    rintro e w2 ⟨rfl, k2⟩
    have b2 := b1.trans (k2.mono b1.size)
    have t2 := t0.below b2
    clear k2
    rw [show cl 1 6 = 5 from rfl, show cl 1 7 = 2 from rfl]
    go_wp2_with fail
    refine (right_any 1 _ t2).mono ?_
    rintro e w3 ⟨rfl, k3⟩
    have b3 := b2.trans (k3.mono b2.size)
    have t3 := t0.below b3
    clear k3
    rw [show decide ((1 : Int) ≤ 1 ∧ (1 : Int) ≤ 5) = true from rfl]
    go_wp2_with fail
    refine (fits_in 5 3 (by decide) (by decide) (by decide) (by decide) _).mono ?_
    rintro e w4 ⟨rfl, k4⟩
    have b4 := b3.trans (k4.mono b3.size)
    have t4 := t0.below b4
    clear k4
    rw [show fitsB 5 3 = true from by decide]
    go_wp2_with fail
    refine (fits_in 5 5 (by decide) (by decide) (by decide) (by decide) _).mono ?_
    rintro e w5 ⟨rfl, k5⟩
    have b5 := b4.trans (k5.mono b4.size)
    have t5 := t0.below b5
    clear k5
    rw [show fitsB 5 5 = false from by decide]
    go_wp2_with fail
    refine (fits_in 5 6 (by decide) (by decide) (by decide) (by decide) _).mono ?_
    rintro e w6 ⟨rfl, k6⟩
    have b6 := b5.trans (k6.mono b5.size)
    have t6 := t0.below b6
    clear k6
    rw [show fitsB 5 6 = false from by decide]
    go_wp2_with fail
    go_ret
    exact ⟨rfl, b6⟩
  · skip
    go_enter Tryd.func3, Tryd.ntmps3
    have b0 := Below.refl w.heap.size w
    have t0 := h
    go_wp2_with fail
    refine (awake14 _ t0).mono ?_
    rintro e w1 ⟨rfl, k1⟩
    have b1 := b0.trans (k1.mono b0.size)
    have t1 := t0.below b1
    clear k1
    go_wp2_with fail
    refine (write_any _).mono ?_
    rintro e w2 ⟨rfl, rfl⟩
    go_wp2_with fail
    refine (fetch_yes 2 _ t1).mono ?_
    rintro e w2 ⟨rfl, k2⟩
    have b2 := b1.trans (k2.mono b1.size)
    have t2 := t0.below b2
    clear k2
    rw [show cl 2 6 = 5 from rfl, show cl 2 7 = 2 from rfl]
    go_wp2_with fail
    refine (right_any 2 _ t2).mono ?_
    rintro e w3 ⟨rfl, k3⟩
    have b3 := b2.trans (k3.mono b2.size)
    have t3 := t0.below b3
    clear k3
    rw [show decide ((1 : Int) ≤ 2 ∧ (2 : Int) ≤ 5) = true from rfl]
    go_wp2_with fail
    refine (fits_in 5 3 (by decide) (by decide) (by decide) (by decide) _).mono ?_
    rintro e w4 ⟨rfl, k4⟩
    have b4 := b3.trans (k4.mono b3.size)
    have t4 := t0.below b4
    clear k4
    rw [show fitsB 5 3 = true from by decide]
    go_wp2_with fail
    refine (fits_in 5 5 (by decide) (by decide) (by decide) (by decide) _).mono ?_
    rintro e w5 ⟨rfl, k5⟩
    have b5 := b4.trans (k5.mono b4.size)
    have t5 := t0.below b5
    clear k5
    rw [show fitsB 5 5 = false from by decide]
    go_wp2_with fail
    refine (fits_in 5 6 (by decide) (by decide) (by decide) (by decide) _).mono ?_
    rintro e w6 ⟨rfl, k6⟩
    have b6 := b5.trans (k6.mono b5.size)
    have t6 := t0.below b6
    clear k6
    rw [show fitsB 5 6 = false from by decide]
    go_wp2_with fail
    go_ret
    exact ⟨rfl, b6⟩
  · skip
    go_enter Tryd.func3, Tryd.ntmps3
    have b0 := Below.refl w.heap.size w
    have t0 := h
    go_wp2_with fail
    refine (awake14 _ t0).mono ?_
    rintro e w1 ⟨rfl, k1⟩
    have b1 := b0.trans (k1.mono b0.size)
    have t1 := t0.below b1
    clear k1
    go_wp2_with fail
    refine (write_any _).mono ?_
    rintro e w2 ⟨rfl, rfl⟩
    go_wp2_with fail
    refine (fetch_yes 3 _ t1).mono ?_
    rintro e w2 ⟨rfl, k2⟩
    have b2 := b1.trans (k2.mono b1.size)
    have t2 := t0.below b2
    clear k2
    rw [show cl 3 6 = 5 from rfl, show cl 3 7 = 2 from rfl]
    go_wp2_with fail
    refine (right_any 3 _ t2).mono ?_
    rintro e w3 ⟨rfl, k3⟩
    have b3 := b2.trans (k3.mono b2.size)
    have t3 := t0.below b3
    clear k3
    rw [show decide ((1 : Int) ≤ 3 ∧ (3 : Int) ≤ 5) = true from rfl]
    go_wp2_with fail
    refine (fits_in 5 3 (by decide) (by decide) (by decide) (by decide) _).mono ?_
    rintro e w4 ⟨rfl, k4⟩
    have b4 := b3.trans (k4.mono b3.size)
    have t4 := t0.below b4
    clear k4
    rw [show fitsB 5 3 = true from by decide]
    go_wp2_with fail
    refine (fits_in 5 5 (by decide) (by decide) (by decide) (by decide) _).mono ?_
    rintro e w5 ⟨rfl, k5⟩
    have b5 := b4.trans (k5.mono b4.size)
    have t5 := t0.below b5
    clear k5
    rw [show fitsB 5 5 = false from by decide]
    go_wp2_with fail
    refine (fits_in 5 6 (by decide) (by decide) (by decide) (by decide) _).mono ?_
    rintro e w6 ⟨rfl, k6⟩
    have b6 := b5.trans (k6.mono b5.size)
    have t6 := t0.below b6
    clear k6
    rw [show fitsB 5 6 = false from by decide]
    go_wp2_with fail
    go_ret
    exact ⟨rfl, b6⟩
  · skip
    go_enter Tryd.func3, Tryd.ntmps3
    have b0 := Below.refl w.heap.size w
    have t0 := h
    go_wp2_with fail
    refine (awake14 _ t0).mono ?_
    rintro e w1 ⟨rfl, k1⟩
    have b1 := b0.trans (k1.mono b0.size)
    have t1 := t0.below b1
    clear k1
    go_wp2_with fail
    refine (write_any _).mono ?_
    rintro e w2 ⟨rfl, rfl⟩
    go_wp2_with fail
    refine (fetch_yes 4 _ t1).mono ?_
    rintro e w2 ⟨rfl, k2⟩
    have b2 := b1.trans (k2.mono b1.size)
    have t2 := t0.below b2
    clear k2
    rw [show cl 4 6 = 5 from rfl, show cl 4 7 = 3 from rfl]
    go_wp2_with fail
    refine (right_any 4 _ t2).mono ?_
    rintro e w3 ⟨rfl, k3⟩
    have b3 := b2.trans (k3.mono b2.size)
    have t3 := t0.below b3
    clear k3
    rw [show decide ((1 : Int) ≤ 4 ∧ (4 : Int) ≤ 5) = true from rfl]
    go_wp2_with fail
    refine (fits_in 5 3 (by decide) (by decide) (by decide) (by decide) _).mono ?_
    rintro e w4 ⟨rfl, k4⟩
    have b4 := b3.trans (k4.mono b3.size)
    have t4 := t0.below b4
    clear k4
    rw [show fitsB 5 3 = true from by decide]
    go_wp2_with fail
    refine (fits_in 5 5 (by decide) (by decide) (by decide) (by decide) _).mono ?_
    rintro e w5 ⟨rfl, k5⟩
    have b5 := b4.trans (k5.mono b4.size)
    have t5 := t0.below b5
    clear k5
    rw [show fitsB 5 5 = false from by decide]
    go_wp2_with fail
    refine (fits_in 5 6 (by decide) (by decide) (by decide) (by decide) _).mono ?_
    rintro e w6 ⟨rfl, k6⟩
    have b6 := b5.trans (k6.mono b5.size)
    have t6 := t0.below b6
    clear k6
    rw [show fitsB 5 6 = false from by decide]
    go_wp2_with fail
    go_ret
    exact ⟨rfl, b6⟩
  · skip
    go_enter Tryd.func3, Tryd.ntmps3
    have b0 := Below.refl w.heap.size w
    have t0 := h
    go_wp2_with fail
    refine (awake14 _ t0).mono ?_
    rintro e w1 ⟨rfl, k1⟩
    have b1 := b0.trans (k1.mono b0.size)
    have t1 := t0.below b1
    clear k1
    go_wp2_with fail
    refine (write_any _).mono ?_
    rintro e w2 ⟨rfl, rfl⟩
    go_wp2_with fail
    refine (fetch_yes 5 _ t1).mono ?_
    rintro e w2 ⟨rfl, k2⟩
    have b2 := b1.trans (k2.mono b1.size)
    have t2 := t0.below b2
    clear k2
    rw [show cl 5 6 = 5 from rfl, show cl 5 7 = 3 from rfl]
    go_wp2_with fail
    refine (right_any 5 _ t2).mono ?_
    rintro e w3 ⟨rfl, k3⟩
    have b3 := b2.trans (k3.mono b2.size)
    have t3 := t0.below b3
    clear k3
    rw [show decide ((1 : Int) ≤ 5 ∧ (5 : Int) ≤ 5) = true from rfl]
    go_wp2_with fail
    refine (fits_in 5 3 (by decide) (by decide) (by decide) (by decide) _).mono ?_
    rintro e w4 ⟨rfl, k4⟩
    have b4 := b3.trans (k4.mono b3.size)
    have t4 := t0.below b4
    clear k4
    rw [show fitsB 5 3 = true from by decide]
    go_wp2_with fail
    refine (fits_in 5 5 (by decide) (by decide) (by decide) (by decide) _).mono ?_
    rintro e w5 ⟨rfl, k5⟩
    have b5 := b4.trans (k5.mono b4.size)
    have t5 := t0.below b5
    clear k5
    rw [show fitsB 5 5 = false from by decide]
    go_wp2_with fail
    refine (fits_in 5 6 (by decide) (by decide) (by decide) (by decide) _).mono ?_
    rintro e w6 ⟨rfl, k6⟩
    have b6 := b5.trans (k6.mono b5.size)
    have t6 := t0.below b6
    clear k6
    rw [show fitsB 5 6 = false from by decide]
    go_wp2_with fail
    go_ret
    exact ⟨rfl, b6⟩

set_option maxHeartbeats 2000000 in
theorem rungs_walk (l : Int) (w : World) (h : Tb w) :
    Calls Tryd.prog 6 #[.int .i64 l] w fun e w' => e = .returned (.bool true) ∧ Below w.heap.size w w' := by
  rcases cases5 l with hl | rfl | rfl | rfl | rfl | rfl
  · skip
    have hd : decide (1 ≤ l ∧ l ≤ 5) = false := by simp; omega
    have HD := Lib.hid hd
    clear hd
    go_enter Tryd.func6, Tryd.ntmps6
    have b0 := Below.refl w.heap.size w
    have t0 := h
    go_wp2_with fail
    refine (awake14 _ t0).mono ?_
    rintro e w1 ⟨rfl, k1⟩
    have b1 := b0.trans (k1.mono b0.size)
    have t1 := t0.below b1
    clear k1
    go_wp2_with fail
    refine (right_any l _ t1).mono ?_
    rintro e w2 ⟨rfl, k2⟩
    have b2 := b1.trans (k2.mono b1.size)
    have t2 := t0.below b2
    clear k2
    rw [HD.out]
    go_wp2_with fail
    go_ret
    exact ⟨rfl, b2⟩
  · skip
    go_enter Tryd.func6, Tryd.ntmps6
    have b0 := Below.refl w.heap.size w
    have t0 := h
    go_wp2_with fail
    refine (awake14 _ t0).mono ?_
    rintro e w1 ⟨rfl, k1⟩
    have b1 := b0.trans (k1.mono b0.size)
    have t1 := t0.below b1
    clear k1
    go_wp2_with fail
    refine (right_any 1 _ t1).mono ?_
    rintro e w2 ⟨rfl, k2⟩
    have b2 := b1.trans (k2.mono b1.size)
    have t2 := t0.below b2
    clear k2
    rw [show decide ((1 : Int) ≤ 1 ∧ (1 : Int) ≤ 5) = true from rfl]
    go_wp2_with fail
    refine (get_any 1 _ t2).mono ?_
    rintro e w3 ⟨rfl, k3⟩
    have b3 := b2.trans (k3.mono b2.size)
    have t3 := t0.below b3
    clear k3
    rw [show cl 1 0 = 0 from rfl, show cl 1 1 = 0 from rfl]
    go_wp2_with fail
    refine (rows_any 1 _ t3).mono ?_
    rintro e w4 ⟨rfl, k4⟩
    have b4 := b3.trans (k4.mono b3.size)
    have t4 := t0.below b4
    clear k4
    rw [show cl 1 2 = 0 from rfl, show cl 1 3 = 0 from rfl]
    go_wp2_with fail
    refine (fetch_no 1 _ t4).mono ?_
    rintro e w5 ⟨rfl, k5⟩
    have b5 := b4.trans (k5.mono b4.size)
    have t5 := t0.below b5
    clear k5
    rw [show cl 1 4 = 0 from rfl, show cl 1 5 = 0 from rfl]
    go_wp2_with fail
    refine (scan_any 1 _ t5).mono ?_
    rintro e w6 ⟨rfl, k6⟩
    have b6 := b5.trans (k6.mono b5.size)
    have t6 := t0.below b6
    clear k6
    rw [show cl 1 8 = 0 from rfl]
    go_wp2_with fail
    go_ret
    exact ⟨rfl, b6⟩
  · skip
    go_enter Tryd.func6, Tryd.ntmps6
    have b0 := Below.refl w.heap.size w
    have t0 := h
    go_wp2_with fail
    refine (awake14 _ t0).mono ?_
    rintro e w1 ⟨rfl, k1⟩
    have b1 := b0.trans (k1.mono b0.size)
    have t1 := t0.below b1
    clear k1
    go_wp2_with fail
    refine (right_any 2 _ t1).mono ?_
    rintro e w2 ⟨rfl, k2⟩
    have b2 := b1.trans (k2.mono b1.size)
    have t2 := t0.below b2
    clear k2
    rw [show decide ((1 : Int) ≤ 2 ∧ (2 : Int) ≤ 5) = true from rfl]
    go_wp2_with fail
    refine (get_any 2 _ t2).mono ?_
    rintro e w3 ⟨rfl, k3⟩
    have b3 := b2.trans (k3.mono b2.size)
    have t3 := t0.below b3
    clear k3
    rw [show cl 2 0 = 3 from rfl, show cl 2 1 = 1 from rfl]
    go_wp2_with fail
    refine (rows_any 2 _ t3).mono ?_
    rintro e w4 ⟨rfl, k4⟩
    have b4 := b3.trans (k4.mono b3.size)
    have t4 := t0.below b4
    clear k4
    rw [show cl 2 2 = 0 from rfl, show cl 2 3 = 0 from rfl]
    go_wp2_with fail
    refine (fetch_no 2 _ t4).mono ?_
    rintro e w5 ⟨rfl, k5⟩
    have b5 := b4.trans (k5.mono b4.size)
    have t5 := t0.below b5
    clear k5
    rw [show cl 2 4 = 3 from rfl, show cl 2 5 = 1 from rfl]
    go_wp2_with fail
    refine (scan_any 2 _ t5).mono ?_
    rintro e w6 ⟨rfl, k6⟩
    have b6 := b5.trans (k6.mono b5.size)
    have t6 := t0.below b6
    clear k6
    rw [show cl 2 8 = 1 from rfl]
    go_wp2_with fail
    go_ret
    exact ⟨rfl, b6⟩
  · skip
    go_enter Tryd.func6, Tryd.ntmps6
    have b0 := Below.refl w.heap.size w
    have t0 := h
    go_wp2_with fail
    refine (awake14 _ t0).mono ?_
    rintro e w1 ⟨rfl, k1⟩
    have b1 := b0.trans (k1.mono b0.size)
    have t1 := t0.below b1
    clear k1
    go_wp2_with fail
    refine (right_any 3 _ t1).mono ?_
    rintro e w2 ⟨rfl, k2⟩
    have b2 := b1.trans (k2.mono b1.size)
    have t2 := t0.below b2
    clear k2
    rw [show decide ((1 : Int) ≤ 3 ∧ (3 : Int) ≤ 5) = true from rfl]
    go_wp2_with fail
    refine (get_any 3 _ t2).mono ?_
    rintro e w3 ⟨rfl, k3⟩
    have b3 := b2.trans (k3.mono b2.size)
    have t3 := t0.below b3
    clear k3
    rw [show cl 3 0 = 3 from rfl, show cl 3 1 = 1 from rfl]
    go_wp2_with fail
    refine (rows_any 3 _ t3).mono ?_
    rintro e w4 ⟨rfl, k4⟩
    have b4 := b3.trans (k4.mono b3.size)
    have t4 := t0.below b4
    clear k4
    rw [show cl 3 2 = 0 from rfl, show cl 3 3 = 0 from rfl]
    go_wp2_with fail
    refine (fetch_no 3 _ t4).mono ?_
    rintro e w5 ⟨rfl, k5⟩
    have b5 := b4.trans (k5.mono b4.size)
    have t5 := t0.below b5
    clear k5
    rw [show cl 3 4 = 3 from rfl, show cl 3 5 = 2 from rfl]
    go_wp2_with fail
    refine (scan_any 3 _ t5).mono ?_
    rintro e w6 ⟨rfl, k6⟩
    have b6 := b5.trans (k6.mono b5.size)
    have t6 := t0.below b6
    clear k6
    rw [show cl 3 8 = 1 from rfl]
    go_wp2_with fail
    go_ret
    exact ⟨rfl, b6⟩
  · skip
    go_enter Tryd.func6, Tryd.ntmps6
    have b0 := Below.refl w.heap.size w
    have t0 := h
    go_wp2_with fail
    refine (awake14 _ t0).mono ?_
    rintro e w1 ⟨rfl, k1⟩
    have b1 := b0.trans (k1.mono b0.size)
    have t1 := t0.below b1
    clear k1
    go_wp2_with fail
    refine (right_any 4 _ t1).mono ?_
    rintro e w2 ⟨rfl, k2⟩
    have b2 := b1.trans (k2.mono b1.size)
    have t2 := t0.below b2
    clear k2
    rw [show decide ((1 : Int) ≤ 4 ∧ (4 : Int) ≤ 5) = true from rfl]
    go_wp2_with fail
    refine (get_any 4 _ t2).mono ?_
    rintro e w3 ⟨rfl, k3⟩
    have b3 := b2.trans (k3.mono b2.size)
    have t3 := t0.below b3
    clear k3
    rw [show cl 4 0 = 3 from rfl, show cl 4 1 = 3 from rfl]
    go_wp2_with fail
    refine (rows_any 4 _ t3).mono ?_
    rintro e w4 ⟨rfl, k4⟩
    have b4 := b3.trans (k4.mono b3.size)
    have t4 := t0.below b4
    clear k4
    rw [show cl 4 2 = 3 from rfl, show cl 4 3 = 3 from rfl]
    go_wp2_with fail
    refine (fetch_no 4 _ t4).mono ?_
    rintro e w5 ⟨rfl, k5⟩
    have b5 := b4.trans (k5.mono b4.size)
    have t5 := t0.below b5
    clear k5
    rw [show cl 4 4 = 3 from rfl, show cl 4 5 = 3 from rfl]
    go_wp2_with fail
    refine (scan_any 4 _ t5).mono ?_
    rintro e w6 ⟨rfl, k6⟩
    have b6 := b5.trans (k6.mono b5.size)
    have t6 := t0.below b6
    clear k6
    rw [show cl 4 8 = 1 from rfl]
    go_wp2_with fail
    go_ret
    exact ⟨rfl, b6⟩
  · skip
    go_enter Tryd.func6, Tryd.ntmps6
    have b0 := Below.refl w.heap.size w
    have t0 := h
    go_wp2_with fail
    refine (awake14 _ t0).mono ?_
    rintro e w1 ⟨rfl, k1⟩
    have b1 := b0.trans (k1.mono b0.size)
    have t1 := t0.below b1
    clear k1
    go_wp2_with fail
    refine (right_any 5 _ t1).mono ?_
    rintro e w2 ⟨rfl, k2⟩
    have b2 := b1.trans (k2.mono b1.size)
    have t2 := t0.below b2
    clear k2
    rw [show decide ((1 : Int) ≤ 5 ∧ (5 : Int) ≤ 5) = true from rfl]
    go_wp2_with fail
    refine (get_any 5 _ t2).mono ?_
    rintro e w3 ⟨rfl, k3⟩
    have b3 := b2.trans (k3.mono b2.size)
    have t3 := t0.below b3
    clear k3
    rw [show cl 5 0 = 3 from rfl, show cl 5 1 = 3 from rfl]
    go_wp2_with fail
    refine (rows_any 5 _ t3).mono ?_
    rintro e w4 ⟨rfl, k4⟩
    have b4 := b3.trans (k4.mono b3.size)
    have t4 := t0.below b4
    clear k4
    rw [show cl 5 2 = 3 from rfl, show cl 5 3 = 3 from rfl]
    go_wp2_with fail
    refine (fetch_no 5 _ t4).mono ?_
    rintro e w5 ⟨rfl, k5⟩
    have b5 := b4.trans (k5.mono b4.size)
    have t5 := t0.below b5
    clear k5
    rw [show cl 5 4 = 3 from rfl, show cl 5 5 = 3 from rfl]
    go_wp2_with fail
    refine (scan_any 5 _ t5).mono ?_
    rintro e w6 ⟨rfl, k6⟩
    have b6 := b5.trans (k6.mono b5.size)
    have t6 := t0.below b6
    clear k6
    rw [show cl 5 8 = 3 from rfl]
    go_wp2_with fail
    go_ret
    exact ⟨rfl, b6⟩

set_option maxHeartbeats 2000000 in
theorem tells_walkNo (l : Int) (w : World) (h : Tb w) :
    Calls Tryd.prog 4 #[.int .i64 l, .bool false] w fun e w' => e = .returned (.bool true) ∧ Below w.heap.size w w' := by
  by_cases hl1 : 1 ≤ l <;> by_cases hl5 : l ≤ 5
  all_goals
    have hd : Hid (decide (1 ≤ l ∧ l ≤ 5) = (decide (1 ≤ l) && decide (l ≤ 5))) := Lib.hid (by simp)
    go_enter Tryd.func4, Tryd.ntmps4
    have b0 := Below.refl w.heap.size w
    have t0 := h
    go_wp2_with fail
    refine (awake14 _ t0).mono ?_
    rintro e w1 ⟨rfl, k1⟩
    have b1 := b0.trans (k1.mono b0.size)
    have t1 := t0.below b1
    clear k1
    go_wp2_with fail
    refine (get_any l _ t1).mono ?_
    rintro e w2 ⟨rfl, k2⟩
    have b2 := b1.trans (k2.mono b1.size)
    have t2 := t0.below b2
    clear k2
    go_wp2_with fail
    refine (refGet l _).mono ?_
    rintro e wr ⟨rfl, rfl⟩
    go_wp2_with fail
    refine (rows_any l _ t2).mono ?_
    rintro e w3 ⟨rfl, k3⟩
    have b3 := b2.trans (k3.mono b2.size)
    have t3 := t0.below b3
    clear k3
    go_wp2_with fail
    refine (refRows l _).mono ?_
    rintro e wr ⟨rfl, rfl⟩
    go_wp2_with fail
    refine (fetch_no l _ t3).mono ?_
    rintro e w4 ⟨rfl, k4⟩
    have b4 := b3.trans (k4.mono b3.size)
    have t4 := t0.below b4
    clear k4
    go_wp2_with fail
    refine (refFetchNo l _).mono ?_
    rintro e wr ⟨rfl, rfl⟩
    go_wp2_with fail
    refine (scan_any l _ t4).mono ?_
    rintro e w5 ⟨rfl, k5⟩
    have b5 := b4.trans (k5.mono b4.size)
    have t5 := t0.below b5
    clear k5
    go_wp2_with fail
    refine (refScan l _).mono ?_
    rintro e wr ⟨rfl, rfl⟩
    go_wp2_with fail
    refine (name_any l _ t5).mono ?_
    rintro e w6 ⟨rfl, k6⟩
    have b6 := b5.trans (k6.mono b5.size)
    have t6 := t0.below b6
    clear k6
    go_wp2_with fail
    refine (refName l _).mono ?_
    rintro e wr ⟨rfl, rfl⟩
    go_wp2_with fail
    refine (right_any l _ t6).mono ?_
    rintro e w7 ⟨rfl, k7⟩
    have b7 := b6.trans (k7.mono b6.size)
    have t7 := t0.below b7
    clear k7
    rw [hd.out]
    go_wp2_with fail
    all_goals go_ret
    all_goals exact ⟨by simp [*], b7⟩

set_option maxHeartbeats 2000000 in
theorem tells_walkYes (l : Int) (w : World) (h : Tb w) :
    Calls Tryd.prog 4 #[.int .i64 l, .bool true] w fun e w' => e = .returned (.bool true) ∧ Below w.heap.size w w' := by
  by_cases hl1 : 1 ≤ l <;> by_cases hl5 : l ≤ 5
  all_goals
    have hd : Hid (decide (1 ≤ l ∧ l ≤ 5) = (decide (1 ≤ l) && decide (l ≤ 5))) := Lib.hid (by simp)
    go_enter Tryd.func4, Tryd.ntmps4
    have b0 := Below.refl w.heap.size w
    have t0 := h
    go_wp2_with fail
    refine (awake14 _ t0).mono ?_
    rintro e w1 ⟨rfl, k1⟩
    have b1 := b0.trans (k1.mono b0.size)
    have t1 := t0.below b1
    clear k1
    go_wp2_with fail
    refine (get_any l _ t1).mono ?_
    rintro e w2 ⟨rfl, k2⟩
    have b2 := b1.trans (k2.mono b1.size)
    have t2 := t0.below b2
    clear k2
    go_wp2_with fail
    refine (refGet l _).mono ?_
    rintro e wr ⟨rfl, rfl⟩
    go_wp2_with fail
    refine (rows_any l _ t2).mono ?_
    rintro e w3 ⟨rfl, k3⟩
    have b3 := b2.trans (k3.mono b2.size)
    have t3 := t0.below b3
    clear k3
    go_wp2_with fail
    refine (refRows l _).mono ?_
    rintro e wr ⟨rfl, rfl⟩
    go_wp2_with fail
    refine (fetch_yes l _ t3).mono ?_
    rintro e w4 ⟨rfl, k4⟩
    have b4 := b3.trans (k4.mono b3.size)
    have t4 := t0.below b4
    clear k4
    go_wp2_with fail
    refine (refFetchYes l _).mono ?_
    rintro e wr ⟨rfl, rfl⟩
    go_wp2_with fail
    refine (scan_any l _ t4).mono ?_
    rintro e w5 ⟨rfl, k5⟩
    have b5 := b4.trans (k5.mono b4.size)
    have t5 := t0.below b5
    clear k5
    go_wp2_with fail
    refine (refScan l _).mono ?_
    rintro e wr ⟨rfl, rfl⟩
    go_wp2_with fail
    refine (name_any l _ t5).mono ?_
    rintro e w6 ⟨rfl, k6⟩
    have b6 := b5.trans (k6.mono b5.size)
    have t6 := t0.below b6
    clear k6
    go_wp2_with fail
    refine (refName l _).mono ?_
    rintro e wr ⟨rfl, rfl⟩
    go_wp2_with fail
    refine (right_any l _ t6).mono ?_
    rintro e w7 ⟨rfl, k7⟩
    have b7 := b6.trans (k7.mono b6.size)
    have t7 := t0.below b7
    clear k7
    rw [hd.out]
    go_wp2_with fail
    all_goals go_ret
    all_goals exact ⟨by simp [*], b7⟩

set_option maxHeartbeats 2000000 in
theorem rises_walkNo (l u : Int) (w : World) (h : Tb w) :
    Calls Tryd.prog 5 #[.int .i64 l, .int .i64 u, .bool false] w fun e w' => e = .returned (.bool true) ∧ Below w.heap.size w w' := by
  by_cases hl : 1 ≤ l ∧ l ≤ 5
  case neg =>
    have HD := Lib.hid (decide_eq_false hl)
    clear hl
    go_enter Tryd.func5, Tryd.ntmps5
    have b0 := Below.refl w.heap.size w
    have t0 := h
    go_wp2_with fail
    refine (awake14 _ t0).mono ?_
    rintro e w1 ⟨rfl, k1⟩
    have b1 := b0.trans (k1.mono b0.size)
    have t1 := t0.below b1
    clear k1
    go_wp2_with fail
    refine (right_any l _ t1).mono ?_
    rintro e w2 ⟨rfl, k2⟩
    have b2 := b1.trans (k2.mono b1.size)
    have t2 := t0.below b2
    clear k2
    rw [HD.out]
    go_wp2_with fail
    go_ret
    exact ⟨rfl, b2⟩
  by_cases hu : 1 ≤ u ∧ u ≤ 5
  case neg =>
    have HL := Lib.hid (decide_eq_true hl)
    have HD := Lib.hid (decide_eq_false hu)
    clear hl hu
    go_enter Tryd.func5, Tryd.ntmps5
    have b0 := Below.refl w.heap.size w
    have t0 := h
    go_wp2_with fail
    refine (awake14 _ t0).mono ?_
    rintro e w1 ⟨rfl, k1⟩
    have b1 := b0.trans (k1.mono b0.size)
    have t1 := t0.below b1
    clear k1
    go_wp2_with fail
    refine (right_any l _ t1).mono ?_
    rintro e w2 ⟨rfl, k2⟩
    have b2 := b1.trans (k2.mono b1.size)
    have t2 := t0.below b2
    clear k2
    rw [HL.out]
    go_wp2_with fail
    refine (right_any u _ t2).mono ?_
    rintro e w3 ⟨rfl, k3⟩
    have b3 := b2.trans (k3.mono b2.size)
    have t3 := t0.below b3
    clear k3
    rw [HD.out]
    go_wp2_with fail
    go_ret
    exact ⟨rfl, b3⟩
  have HL := Lib.hid (decide_eq_true hl)
  have HU := Lib.hid (decide_eq_true hu)
  by_cases hlu : l ≤ u
  case neg =>
    clear hl hu
    go_enter Tryd.func5, Tryd.ntmps5
    have b0 := Below.refl w.heap.size w
    have t0 := h
    go_wp2_with fail
    refine (awake14 _ t0).mono ?_
    rintro e w1 ⟨rfl, k1⟩
    have b1 := b0.trans (k1.mono b0.size)
    have t1 := t0.below b1
    clear k1
    go_wp2_with fail
    refine (right_any l _ t1).mono ?_
    rintro e w2 ⟨rfl, k2⟩
    have b2 := b1.trans (k2.mono b1.size)
    have t2 := t0.below b2
    clear k2
    rw [HL.out]
    go_wp2_with fail
    refine (right_any u _ t2).mono ?_
    rintro e w3 ⟨rfl, k3⟩
    have b3 := b2.trans (k3.mono b2.size)
    have t3 := t0.below b3
    clear k3
    rw [HU.out]
    go_wp2_with fail
    go_ret
    exact ⟨rfl, b3⟩
  obtain ⟨⟨c0, c2, c4, c6⟩, d1, d3, d5, d7, d8⟩ := rises_fact hl.1 hlu hu.2
  have HC0 := Lib.hid c0
  have HC2 := Lib.hid c2
  have HC4 := Lib.hid c4
  clear c0 c2 c4 c6 hl hu
  have ml := cl_mode l
  have mu := cl_mode u
  have ML := Lib.hid ml
  have MU := Lib.hid mu
  clear ml mu
  go_enter Tryd.func5, Tryd.ntmps5
  have b0 := Below.refl w.heap.size w
  have t0 := h
  go_wp2_with fail
  refine (awake14 _ t0).mono ?_
  rintro e w1 ⟨rfl, k1⟩
  have b1 := b0.trans (k1.mono b0.size)
  have t1 := t0.below b1
  clear k1
  go_wp2_with fail
  refine (right_any l _ t1).mono ?_
  rintro e w2 ⟨rfl, k2⟩
  have b2 := b1.trans (k2.mono b1.size)
  have t2 := t0.below b2
  clear k2
  rw [HL.out]
  go_wp2_with fail
  refine (right_any u _ t2).mono ?_
  rintro e w3 ⟨rfl, k3⟩
  have b3 := b2.trans (k3.mono b2.size)
  have t3 := t0.below b3
  clear k3
  rw [HU.out]
  go_wp2_with fail
  refine (get_any l _ t3).mono ?_
  rintro e w4 ⟨rfl, k4⟩
  have b4 := b3.trans (k4.mono b3.size)
  have t4 := t0.below b4
  clear k4
  go_wp2_with fail
  refine (get_any u _ t4).mono ?_
  rintro e w5 ⟨rfl, k5⟩
  have b5 := b4.trans (k5.mono b4.size)
  have t5 := t0.below b5
  clear k5
  go_wp2_with fail
  refine (rows_any l _ t5).mono ?_
  rintro e w6 ⟨rfl, k6⟩
  have b6 := b5.trans (k6.mono b5.size)
  have t6 := t0.below b6
  clear k6
  go_wp2_with fail
  refine (rows_any u _ t6).mono ?_
  rintro e w7 ⟨rfl, k7⟩
  have b7 := b6.trans (k7.mono b6.size)
  have t7 := t0.below b7
  clear k7
  go_wp2_with fail
  refine (fetch_no l _ t7).mono ?_
  rintro e w8 ⟨rfl, k8⟩
  have b8 := b7.trans (k8.mono b7.size)
  have t8 := t0.below b8
  clear k8
  go_wp2_with fail
  refine (fetch_no u _ t8).mono ?_
  rintro e w9 ⟨rfl, k9⟩
  have b9 := b8.trans (k9.mono b8.size)
  have t9 := t0.below b9
  clear k9
  go_wp2_with fail
  refine (covers_in (cl u 0) (cl l 0) MU.out.1.1 MU.out.1.2 ML.out.1.1 ML.out.1.2 _).mono ?_
  rintro e w10 ⟨rfl, k10⟩
  have b10 := b9.trans (k10.mono b9.size)
  have t10 := t0.below b10
  clear k10
  rw [HC0.out]
  go_wp2_with fail
  refine (covers_in (cl u 2) (cl l 2) MU.out.2.1.1 MU.out.2.1.2 ML.out.2.1.1 ML.out.2.1.2 _).mono ?_
  rintro e w11 ⟨rfl, k11⟩
  have b11 := b10.trans (k11.mono b10.size)
  have t11 := t0.below b11
  clear k11
  rw [HC2.out]
  go_wp2_with fail
  refine (covers_in (cl u 4) (cl l 4) MU.out.2.2.1.1 MU.out.2.2.1.2 ML.out.2.2.1.1 ML.out.2.2.1.2 _).mono ?_
  rintro e w12 ⟨rfl, k12⟩
  have b12 := b11.trans (k12.mono b11.size)
  have t12 := t0.below b12
  clear k12
  rw [HC4.out]
  go_wp2_with fail
  refine (scan_any l _ t12).mono ?_
  rintro e w13 ⟨rfl, k13⟩
  have b13 := b12.trans (k13.mono b12.size)
  have t13 := t0.below b13
  clear k13
  go_wp2_with fail
  refine (scan_any u _ t13).mono ?_
  rintro e w14 ⟨rfl, k14⟩
  have b14 := b13.trans (k14.mono b13.size)
  have t14 := t0.below b14
  clear k14
  go_wp2_with fail
  go_ret
  exact ⟨rfl, b14⟩

set_option maxHeartbeats 2000000 in
theorem rises_walkYes (l u : Int) (w : World) (h : Tb w) :
    Calls Tryd.prog 5 #[.int .i64 l, .int .i64 u, .bool true] w fun e w' => e = .returned (.bool true) ∧ Below w.heap.size w w' := by
  by_cases hl : 1 ≤ l ∧ l ≤ 5
  case neg =>
    have HD := Lib.hid (decide_eq_false hl)
    clear hl
    go_enter Tryd.func5, Tryd.ntmps5
    have b0 := Below.refl w.heap.size w
    have t0 := h
    go_wp2_with fail
    refine (awake14 _ t0).mono ?_
    rintro e w1 ⟨rfl, k1⟩
    have b1 := b0.trans (k1.mono b0.size)
    have t1 := t0.below b1
    clear k1
    go_wp2_with fail
    refine (right_any l _ t1).mono ?_
    rintro e w2 ⟨rfl, k2⟩
    have b2 := b1.trans (k2.mono b1.size)
    have t2 := t0.below b2
    clear k2
    rw [HD.out]
    go_wp2_with fail
    go_ret
    exact ⟨rfl, b2⟩
  by_cases hu : 1 ≤ u ∧ u ≤ 5
  case neg =>
    have HL := Lib.hid (decide_eq_true hl)
    have HD := Lib.hid (decide_eq_false hu)
    clear hl hu
    go_enter Tryd.func5, Tryd.ntmps5
    have b0 := Below.refl w.heap.size w
    have t0 := h
    go_wp2_with fail
    refine (awake14 _ t0).mono ?_
    rintro e w1 ⟨rfl, k1⟩
    have b1 := b0.trans (k1.mono b0.size)
    have t1 := t0.below b1
    clear k1
    go_wp2_with fail
    refine (right_any l _ t1).mono ?_
    rintro e w2 ⟨rfl, k2⟩
    have b2 := b1.trans (k2.mono b1.size)
    have t2 := t0.below b2
    clear k2
    rw [HL.out]
    go_wp2_with fail
    refine (right_any u _ t2).mono ?_
    rintro e w3 ⟨rfl, k3⟩
    have b3 := b2.trans (k3.mono b2.size)
    have t3 := t0.below b3
    clear k3
    rw [HD.out]
    go_wp2_with fail
    go_ret
    exact ⟨rfl, b3⟩
  have HL := Lib.hid (decide_eq_true hl)
  have HU := Lib.hid (decide_eq_true hu)
  by_cases hlu : l ≤ u
  case neg =>
    clear hl hu
    go_enter Tryd.func5, Tryd.ntmps5
    have b0 := Below.refl w.heap.size w
    have t0 := h
    go_wp2_with fail
    refine (awake14 _ t0).mono ?_
    rintro e w1 ⟨rfl, k1⟩
    have b1 := b0.trans (k1.mono b0.size)
    have t1 := t0.below b1
    clear k1
    go_wp2_with fail
    refine (right_any l _ t1).mono ?_
    rintro e w2 ⟨rfl, k2⟩
    have b2 := b1.trans (k2.mono b1.size)
    have t2 := t0.below b2
    clear k2
    rw [HL.out]
    go_wp2_with fail
    refine (right_any u _ t2).mono ?_
    rintro e w3 ⟨rfl, k3⟩
    have b3 := b2.trans (k3.mono b2.size)
    have t3 := t0.below b3
    clear k3
    rw [HU.out]
    go_wp2_with fail
    go_ret
    exact ⟨rfl, b3⟩
  obtain ⟨⟨c0, c2, c4, c6⟩, d1, d3, d5, d7, d8⟩ := rises_fact hl.1 hlu hu.2
  have HC0 := Lib.hid c0
  have HC2 := Lib.hid c2
  have HC4 := Lib.hid c6
  clear c0 c2 c4 c6 hl hu
  have ml := cl_mode l
  have mu := cl_mode u
  have ML := Lib.hid ml
  have MU := Lib.hid mu
  clear ml mu
  go_enter Tryd.func5, Tryd.ntmps5
  have b0 := Below.refl w.heap.size w
  have t0 := h
  go_wp2_with fail
  refine (awake14 _ t0).mono ?_
  rintro e w1 ⟨rfl, k1⟩
  have b1 := b0.trans (k1.mono b0.size)
  have t1 := t0.below b1
  clear k1
  go_wp2_with fail
  refine (right_any l _ t1).mono ?_
  rintro e w2 ⟨rfl, k2⟩
  have b2 := b1.trans (k2.mono b1.size)
  have t2 := t0.below b2
  clear k2
  rw [HL.out]
  go_wp2_with fail
  refine (right_any u _ t2).mono ?_
  rintro e w3 ⟨rfl, k3⟩
  have b3 := b2.trans (k3.mono b2.size)
  have t3 := t0.below b3
  clear k3
  rw [HU.out]
  go_wp2_with fail
  refine (get_any l _ t3).mono ?_
  rintro e w4 ⟨rfl, k4⟩
  have b4 := b3.trans (k4.mono b3.size)
  have t4 := t0.below b4
  clear k4
  go_wp2_with fail
  refine (get_any u _ t4).mono ?_
  rintro e w5 ⟨rfl, k5⟩
  have b5 := b4.trans (k5.mono b4.size)
  have t5 := t0.below b5
  clear k5
  go_wp2_with fail
  refine (rows_any l _ t5).mono ?_
  rintro e w6 ⟨rfl, k6⟩
  have b6 := b5.trans (k6.mono b5.size)
  have t6 := t0.below b6
  clear k6
  go_wp2_with fail
  refine (rows_any u _ t6).mono ?_
  rintro e w7 ⟨rfl, k7⟩
  have b7 := b6.trans (k7.mono b6.size)
  have t7 := t0.below b7
  clear k7
  go_wp2_with fail
  refine (fetch_yes l _ t7).mono ?_
  rintro e w8 ⟨rfl, k8⟩
  have b8 := b7.trans (k8.mono b7.size)
  have t8 := t0.below b8
  clear k8
  go_wp2_with fail
  refine (fetch_yes u _ t8).mono ?_
  rintro e w9 ⟨rfl, k9⟩
  have b9 := b8.trans (k9.mono b8.size)
  have t9 := t0.below b9
  clear k9
  go_wp2_with fail
  refine (covers_in (cl u 0) (cl l 0) MU.out.1.1 MU.out.1.2 ML.out.1.1 ML.out.1.2 _).mono ?_
  rintro e w10 ⟨rfl, k10⟩
  have b10 := b9.trans (k10.mono b9.size)
  have t10 := t0.below b10
  clear k10
  rw [HC0.out]
  go_wp2_with fail
  refine (covers_in (cl u 2) (cl l 2) MU.out.2.1.1 MU.out.2.1.2 ML.out.2.1.1 ML.out.2.1.2 _).mono ?_
  rintro e w11 ⟨rfl, k11⟩
  have b11 := b10.trans (k11.mono b10.size)
  have t11 := t0.below b11
  clear k11
  rw [HC2.out]
  go_wp2_with fail
  refine (covers_in (cl u 6) (cl l 6) MU.out.2.2.2.1 MU.out.2.2.2.2 ML.out.2.2.2.1 ML.out.2.2.2.2 _).mono ?_
  rintro e w12 ⟨rfl, k12⟩
  have b12 := b11.trans (k12.mono b11.size)
  have t12 := t0.below b12
  clear k12
  rw [HC4.out]
  go_wp2_with fail
  refine (scan_any l _ t12).mono ?_
  rintro e w13 ⟨rfl, k13⟩
  have b13 := b12.trans (k13.mono b12.size)
  have t13 := t0.below b13
  clear k13
  go_wp2_with fail
  refine (scan_any u _ t13).mono ?_
  rintro e w14 ⟨rfl, k14⟩
  have b14 := b13.trans (k14.mono b13.size)
  have t14 := t0.below b14
  clear k14
  go_wp2_with fail
  go_ret
  exact ⟨rfl, b14⟩

end Go.Proofs.YtokcpmeoiblpfaaDoor
