/- Joined texts: Contracts of the reference package of layer 8: Fits, Covers. No conditions. Contract of the reference's Covers (layer 8). No conditions. -/
import Derived.Test.YtgljdkjepdknnaaGreatDoorJ3
/- Contracts of the reference package of layer 8: Fits, Covers. No conditions. -/
namespace Go.Proofs.YtgljdkjepdknnaaGreatDoor
open Go.ChangeShapes Go.WideShapes Go.ChangeAt Go.RowKit

def fitsTab : List (List Bool) := [[true, true, true, true, true, false], [true, true, false, false, false, false], [true, false, true, false, true, false], [true, false, false, false, false, false], [true, false, true, false, false, false], [false, false, false, false, false, false]]
def fitsB (a b : Int) : Bool :=
  if a < 0 ∨ 6 < a ∨ b < 0 ∨ 6 < b then false else if a = 0 ∨ b = 0 then true else (fitsTab.getD (a - 1).toNat []).getD (b - 1).toNat false
theorem fitsB_out {a b : Int} (h : a < 0 ∨ 6 < a ∨ b < 0 ∨ 6 < b) : fitsB a b = false := by unfold fitsB; rw [if_pos h]

theorem fits_out (a b : Int) (h : a < 0 ∨ 6 < a ∨ b < 0 ∨ 6 < b) (w : World) :
    Calls Tryz.prog 71 #[.int .i64 a, .int .i64 b] w fun e w' => e = .returned (.bool false) ∧ w = w' := by
  rcases h with h | h | h | h
  · go_enter Tryz.func71, Tryz.ntmps71
    go_wp2
    go_ret
    exact ⟨rfl, rfl⟩
  · have h0 : ¬ a < 0 := by omega
    go_enter Tryz.func71, Tryz.ntmps71
    go_wp2
    go_ret
    exact ⟨rfl, rfl⟩
  · by_cases h0 : a < 0 <;> by_cases h1 : 6 < a
    all_goals
      go_enter Tryz.func71, Tryz.ntmps71
      go_wp2
      all_goals go_ret
      all_goals exact ⟨rfl, rfl⟩
  · have h2 : ¬ b < 0 := by omega
    by_cases h0 : a < 0 <;> by_cases h1 : 6 < a
    all_goals
      go_enter Tryz.func71, Tryz.ntmps71
      go_wp2
      all_goals go_ret
      all_goals exact ⟨rfl, rfl⟩

theorem cases6 {a : Int} (h0 : 0 ≤ a) (h6 : a ≤ 6) : a = 0 ∨ a = 1 ∨ a = 2 ∨ a = 3 ∨ a = 4 ∨ a = 5 ∨ a = 6 := by omega

set_option maxHeartbeats 4000000 in
theorem fits_in (a b : Int) (h0 : 0 ≤ a) (h6 : a ≤ 6) (k0 : 0 ≤ b) (k6 : b ≤ 6) (w : World) :
    Calls Tryz.prog 71 #[.int .i64 a, .int .i64 b] w fun e w' => e = .returned (.bool (fitsB a b)) ∧ Kept (fun _ => False) w w' := by
  rcases cases6 h0 h6 with rfl | rfl | rfl | rfl | rfl | rfl | rfl <;> rcases cases6 k0 k6 with rfl | rfl | rfl | rfl | rfl | rfl | rfl
  all_goals
    clear h0 h6 k0 k6
    go_enter Tryz.func71, Tryz.ntmps71
    go_wp2
    go_ret
    exact ⟨rfl, by first | exact Kept.refl _ _ | exact (Kept.refl _ _).alloc _⟩
theorem fitsB_M (a b : Int) : fitsB a b = fitsM a b := by
  by_cases h : a < 0 ∨ 6 < a ∨ b < 0 ∨ 6 < b
  · rw [fitsB_out h]
    unfold fitsM modeR
    rcases h with h | h | h | h <;> simp <;> omega
  · rcases cases6 (a := a) (by omega) (by omega) with rfl | rfl | rfl | rfl | rfl | rfl | rfl <;> rcases cases6 (a := b) (by omega) (by omega) with rfl | rfl | rfl | rfl | rfl | rfl | rfl <;> decide
theorem rFits_ok (a b : Int) (w : World) : Calls Tryz.prog 71 #[.int .i64 a, .int .i64 b] w fun e w' => e = .returned (.bool (fitsM a b)) ∧ Kept (fun _ => False) w w' := by
  rw [← fitsB_M]
  by_cases h : a < 0 ∨ 6 < a ∨ b < 0 ∨ 6 < b
  · rw [fitsB_out h]
    exact (fits_out a b h w).mono (fun e w' ⟨h1, h2⟩ => ⟨h1, h2 ▸ Kept.refl _ _⟩)
  · exact fits_in a b (by omega) (by omega) (by omega) (by omega) w
end Go.Proofs.YtgljdkjepdknnaaGreatDoor

/- Contract of the reference's Covers (layer 8). No conditions. -/
namespace Go.Proofs.YtgljdkjepdknnaaGreatDoor
open Go.ChangeShapes Go.WideShapes Go.ChangeAt Go.RowKit

def coversUpto (a b : Int) (k : Nat) : Bool := (List.range k).all fun i => !(fitsB a i) || fitsB b i
def coversB (a b : Int) : Bool :=
  if a < 0 ∨ 6 < a ∨ b < 0 ∨ 6 < b then false else coversUpto a b 7
theorem coversUpto_succ (a b : Int) (k : Nat) : coversUpto a b (k + 1) = (coversUpto a b k && (!(fitsB a k) || fitsB b k)) := by
  simp [coversUpto, List.range_succ, List.all_append]
theorem coversUpto_no {a b : Int} {k : Nat} (h1 : fitsB a k = true) (h2 : fitsB b k = false) (hk : k < 7) : coversUpto a b 7 = false := by
  rw [Bool.eq_false_iff]
  intro h
  have := List.all_eq_true.1 h k (List.mem_range.2 hk)
  simp [h1, h2] at this

set_option maxHeartbeats 1000000 in
theorem covers_in (a b : Int) (h0 : 0 ≤ a) (h6 : a ≤ 6) (k0 : 0 ≤ b) (k6 : b ≤ 6) (w : World) :
    Calls Tryz.prog 54 #[.int .i64 a, .int .i64 b] w fun e w' => e = .returned (.bool (coversB a b)) ∧ Kept (fun _ => False) w w' := by
  have hc : coversB a b = coversUpto a b 7 := by unfold coversB; rw [if_neg (by omega)]
  have HC := Lib.hid hc
  clear hc
  go_enter Tryz.func54, Tryz.ntmps54
  go_wp2
  go_loopw [5, 6, 7] (fun i _ _ wr => ∃ k : Nat, k ≤ 7 ∧ i = .int .i64 k ∧ coversUpto a b k = true ∧ Kept (fun _ => False) w wr)
    (fun i _ _ _ => 7 - (intOf i).toNat)
  case atStart => exact ⟨0, by omega, rfl, rfl, Kept.refl _ _⟩
  case round =>
    obtain ⟨k, hk, rfl, hu, hb⟩ := hrel
    have HU := Lib.hid hu
    clear hu
    have hsz := hb.size
    by_cases hlt : k < 7
    · cases h1 : fitsB a k <;> cases h2 : fitsB b k
      all_goals
        have H1 := Lib.hid h1
        have H2 := Lib.hid h2
        clear h1 h2
        go_wp2_with fail
        refine (fits_in a k (by omega) (by omega) (by omega) (by omega) _).mono ?_
        rintro e w1 ⟨rfl, hb1⟩
        rw [H1.out]
        go_wp2_with fail
        refine (fits_in b k (by omega) (by omega) (by omega) (by omega) _).mono ?_
        rintro e w2 ⟨rfl, hb2⟩
        rw [H2.out]
        go_wp2_with fail
        have hb3 : Kept (fun _ => False) w w2 := (hb.trans hb1 (fun _ h => h.elim)).trans hb2 (fun _ h => h.elim)
        first
        | (go_roundw
           case rel => exact ⟨k + 1, by omega, by go_num, by rw [coversUpto_succ, HU.out, H1.out, H2.out]; rfl, hb3⟩
           case measure => simp [intOf]; omega)
        | (go_ret
           exact ⟨ret_bool (by rw [HC.out, coversUpto_no H1.out H2.out hlt]), hb3⟩)
    · have hk7 : ¬ (k : Int) ≤ 6 := by omega
      go_wp2_with fail
      go_ret
      obtain rfl : k = 7 := by omega
      exact ⟨ret_bool (by rw [HC.out, HU.out]), hb⟩
theorem coversB_M (a b : Int) : coversB a b = coversM a b := by
  unfold coversB coversM coversUpto
  have : (fun i : Nat => !(fitsB a i) || fitsB b i) = (fun i : Nat => !(fitsM a i) || fitsM b i) := funext fun i => by rw [fitsB_M, fitsB_M]
  rw [this]
  split
  · rename_i h
    symm
    rw [Bool.and_eq_false_iff]
    left
    unfold modeR
    rcases h with h | h | h | h <;> simp <;> omega
  · rename_i h
    have h1 : modeR a = true := by unfold modeR; simp; omega
    have h2 : modeR b = true := by unfold modeR; simp; omega
    rw [h1, h2]
    rfl
theorem rCovers_in (a b : Int) (ha : 0 ≤ a ∧ a ≤ 6) (hb : 0 ≤ b ∧ b ≤ 6) (w : World) : Calls Tryz.prog 54 #[.int .i64 a, .int .i64 b] w fun e w' => e = .returned (.bool (coversM a b)) ∧ Kept (fun _ => False) w w' := by
  rw [← coversB_M]
  exact covers_in a b ha.1 ha.2 hb.1 hb.2 w
end Go.Proofs.YtgljdkjepdknnaaGreatDoor
