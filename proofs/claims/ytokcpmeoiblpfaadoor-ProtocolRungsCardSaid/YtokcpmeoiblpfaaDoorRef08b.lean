/- Contract of the reference's Covers (layer 8). No conditions. -/
import Derived.Test.YtokcpmeoiblpfaaDoorRef08
namespace Go.Proofs.YtokcpmeoiblpfaaDoor
open Go.ChangeShapes Go.WideShapes Go.ChangeAt Go.RowKit

def coversUpto (a b : Int) (k : Nat) : Bool := (List.range k).all fun i => !(fitsB a i) || fitsB b i
def coversB (a b : Int) : Bool :=
  if a < 0 ∨ 6 < a ∨ b < 0 ∨ 6 < b then false else coversUpto a b 7
theorem coversUpto_succ (a b : Int) (k : Nat) : coversUpto a b (k + 1) = (coversUpto a b k && (!(fitsB a k) || fitsB b k)) := by
  simp [coversUpto, List.range_succ, List.all_append]
theorem coversUpto_no {a b : Int} {k : Nat} (h1 : fitsB a k = true) (h2 : fitsB b k = false) (hk : k < 7) : coversUpto a b 7 = false := by
  rw [Bool.eq_false_iff]
  intro h
  have := List.all_eq_true.1 h k (List.mem_range.2 hk)
  simp [h1, h2] at this

set_option maxHeartbeats 1000000 in
theorem covers_in (a b : Int) (h0 : 0 ≤ a) (h6 : a ≤ 6) (k0 : 0 ≤ b) (k6 : b ≤ 6) (w : World) :
    Calls Tryd.prog 21 #[.int .i64 a, .int .i64 b] w fun e w' => e = .returned (.bool (coversB a b)) ∧ Below w.heap.size w w' := by
  have hc : coversB a b = coversUpto a b 7 := by unfold coversB; rw [if_neg (by omega)]
  have HC := Lib.hid hc
  clear hc
  go_enter Tryd.func21, Tryd.ntmps21
  go_wp2
  go_loopw [5, 6, 7] (fun i _ _ wr => ∃ k : Nat, k ≤ 7 ∧ i = .int .i64 k ∧ coversUpto a b k = true ∧ Below w.heap.size w wr)
    (fun i _ _ _ => 7 - (intOf i).toNat)
  case atStart => exact ⟨0, by omega, rfl, rfl, Below.refl _ _⟩
  case round =>
    obtain ⟨k, hk, rfl, hu, hb⟩ := hrel
    have HU := Lib.hid hu
    clear hu
    have hsz := hb.size
    by_cases hlt : k < 7
    · cases h1 : fitsB a k <;> cases h2 : fitsB b k
      all_goals
        have H1 := Lib.hid h1
        have H2 := Lib.hid h2
        clear h1 h2
        go_wp2_with fail
        refine (fits_in a k (by omega) (by omega) (by omega) (by omega) _).mono ?_
        rintro e w1 ⟨rfl, hb1⟩
        rw [H1.out]
        go_wp2_with fail
        refine (fits_in b k (by omega) (by omega) (by omega) (by omega) _).mono ?_
        rintro e w2 ⟨rfl, hb2⟩
        rw [H2.out]
        go_wp2_with fail
        have hb3 : Below w.heap.size w w2 := hb.trans ((hb1.mono (by omega)).trans (hb2.mono (by have := hb1.size; omega)))
        first
        | (go_roundw
           case rel => exact ⟨k + 1, by omega, by go_num, by rw [coversUpto_succ, HU.out, H1.out, H2.out]; rfl, hb3⟩
           case measure => simp [intOf]; omega)
        | (go_ret
           exact ⟨ret_bool (by rw [HC.out, coversUpto_no H1.out H2.out hlt]), hb3⟩)
    · have hk7 : ¬ (k : Int) ≤ 6 := by omega
      go_wp2_with fail
      go_ret
      obtain rfl : k = 7 := by omega
      exact ⟨ret_bool (by rw [HC.out, HU.out]), hb⟩
end Go.Proofs.YtokcpmeoiblpfaaDoor
