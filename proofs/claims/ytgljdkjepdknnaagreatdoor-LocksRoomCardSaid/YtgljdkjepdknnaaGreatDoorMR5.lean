/- Joined texts: The modes of locks: Join of the program. The table of modes in memory. (printed by genq.py) -/
import Derived.Test.YtgljdkjepdknnaaGreatDoorMR4
import Derived.Test.YtgljdkjepdknnaaGreatDoorMR2
/- The modes of locks: Join of the program. -/
namespace Go.Proofs.YtgljdkjepdknnaaGreatDoor
open Go.ChangeShapes Go.WideShapes Go.ChangeAt Go.RowKit
set_option maxRecDepth 100000
set_option linter.unusedSimpArgs false

theorem joinS_bound (a b : Int) : ∀ (n : Nat) (x : Int), 0 ≤ x ∧ x ≤ 6 → n ≤ 7 → 0 ≤ (List.range n).foldl (joinS a b) x ∧ (List.range n).foldl (joinS a b) x ≤ 6
 | 0, x, h, _ => h
 | n + 1, x, h, hn => by
  rw [List.range_succ, List.foldl_append]
  have ih := joinS_bound a b n x h (by omega)
  show 0 ≤ joinS a b ((List.range n).foldl (joinS a b) x) n ∧ joinS a b ((List.range n).foldl (joinS a b) x) n ≤ 6
  generalize (List.range n).foldl (joinS a b) x = y at *
  unfold joinS
  split <;> omega
set_option maxHeartbeats 8000000 in
theorem Join_ok (a b : Int) (w : World) (hz : 0 < w.heap.size) (h : Tb w) : Calls Tryz.prog 121 #[.int .i64 a, .int .i64 b] w fun e w' => e = .returned (.int .i64 (joinM a b)) ∧ Kept (fun _ => False) w w' := by
 have HT := Lib.hid h
 clear h
 cases ha : modeR a
 ·have E := Lib.hid (show joinM a b = 0 by unfold joinM; simp [ha])
  have HA := Lib.hid ha
  clear ha
  go_enter Tryz.func121, Tryz.ntmps121
  go_wp2_with (go_at_call 79; refine (Right_is HA.out _).mono ?_; rintro e w' ⟨rfl, rfl⟩)
  go_ret
  exact ⟨by rw [E.out]; rfl, Kept.refl _ _⟩
 cases hb : modeR b
 ·have E := Lib.hid (show joinM a b = 0 by unfold joinM; simp [hb])
  have HA := Lib.hid ha
  have HB := Lib.hid hb
  clear ha hb
  go_enter Tryz.func121, Tryz.ntmps121
  go_wp2_with (go_at_call 79; first | (refine (Right_is HA.out _).mono ?_; rintro e w' ⟨rfl, rfl⟩) | (refine (Right_is HB.out _).mono ?_; rintro e w' ⟨rfl, rfl⟩))
  go_ret
  exact ⟨by rw [E.out]; rfl, Kept.refl _ _⟩
 have E := Lib.hid (show joinM a b = (List.range 7).foldl (joinS a b) 6 by unfold joinM; simp [ha, hb])
 have HA := Lib.hid ha
 have HB := Lib.hid hb
 clear ha hb
 go_enter Tryz.func121, Tryz.ntmps121
 go_wp2_with (go_at_call 79; first | (refine (Right_is HA.out _).mono ?_; rintro e w' ⟨rfl, rfl⟩) | (refine (Right_is HB.out _).mono ?_; rintro e w' ⟨rfl, rfl⟩))
 go_loopw [5, 6] (fun x i wr => ∃ m : Nat, i = .int .i64 m ∧ m ≤ 7 ∧ x = .int .i64 ((List.range m).foldl (joinS a b) 6) ∧ Kept (fun _ => False) w wr) (fun _ i _ => 7 - (intOf i).toNat)
 case atStart => exact ⟨0, rfl, by omega, rfl, Kept.refl _ _⟩
 case round =>
  obtain ⟨m, rfl, hm, rfl, hk⟩ := hrel
  have HK := Lib.hid hk
  have HTW := Lib.hid (HT.out.kept hz hk)
  clear hk
  by_cases hlt : m ≤ 6
  ·have hi : (m : Int) ≤ 6 := by omega
   have hs := show (List.range (m + 1)).foldl (joinS a b) 6 = joinS a b ((List.range m).foldl (joinS a b) 6) m by rw [List.range_succ, List.foldl_append]; rfl
   have hbd := joinS_bound a b m 6 (by omega) (by omega)
   generalize (List.range m).foldl (joinS a b) 6 = x at *
   have HSS := Lib.hid hs
   clear hs
   have HX : Hid ((coversM m a && coversM m b && coversM x m) = (coversM m a && coversM m b && coversM x m)) := Lib.hid rfl
   cases c1 : coversM m a <;> cases c2 : coversM m b <;> cases c3 : coversM x m
   all_goals
    have C1 := Lib.hid c1
    have C2 := Lib.hid c2
    have C3 := Lib.hid c3
    have HJ := Lib.hid (show joinS a b x m = (if (coversM m a && coversM m b && coversM x m) = true then (m : Int) else x) from rfl)
    rw [c1, c2, c3] at HJ
    simp only [Bool.and_true, Bool.and_false, Bool.false_and, Bool.true_and, Bool.false_eq_true, if_true, if_false] at HJ
    clear c1 c2 c3
    have HS0 : Hid (Kept (fun _ => False) w wr ∧ Tb wr) := Lib.hid ⟨HK.out, HTW.out⟩
    go_wp2_with (go_at_call 117; first | (refine (Covers_is C1.out _ HS0.out.2).mono ?_; rintro e w' ⟨rfl, hk'⟩; replace HS0 := Lib.hid (And.intro (HS0.out.1.trans hk' (fun _ h => h.elim)) (HT.out.kept hz (HS0.out.1.trans hk' (fun _ h => h.elim)))); clear hk' C1) | (refine (Covers_is C2.out _ HS0.out.2).mono ?_; rintro e w' ⟨rfl, hk'⟩; replace HS0 := Lib.hid (And.intro (HS0.out.1.trans hk' (fun _ h => h.elim)) (HT.out.kept hz (HS0.out.1.trans hk' (fun _ h => h.elim)))); clear hk' C2) | (refine (Covers_is C3.out _ HS0.out.2).mono ?_; rintro e w' ⟨rfl, hk'⟩; replace HS0 := Lib.hid (And.intro (HS0.out.1.trans hk' (fun _ h => h.elim)) (HT.out.kept hz (HS0.out.1.trans hk' (fun _ h => h.elim)))); clear hk' C3))
    go_roundw
    case rel => exact ⟨m + 1, by go_num, by omega, by rw [HSS.out, HJ.out], HS0.out.1⟩
    case measure => simp [intOf]; omega
  ·have hi : ¬ (m : Int) ≤ 6 := by omega
   obtain rfl : m = 7 := by omega
   go_wp2_with fail
   go_ret
   exact ⟨by rw [E.out]; rfl, HK.out⟩
end Go.Proofs.YtgljdkjepdknnaaGreatDoor

/- The table of modes in memory. (printed by genq.py) -/
namespace Go.Proofs.YtgljdkjepdknnaaGreatDoor
open Go.ChangeShapes Go.WideShapes Go.ChangeAt Go.RowKit
set_option maxRecDepth 100000
set_option linter.unusedSimpArgs false

abbrev Env (w : World) : Prop := 0 < w.heap.size ∧ Tb w
theorem Env.kept {w w' : World} (h : Env w) (k : Kept (fun _ => False) w w') : Env w' := ⟨Nat.lt_of_lt_of_le h.1 k.size, h.2.kept h.1 k⟩
theorem Env.drew {w : World} (h : Env w) : Env w.drew := h.kept ((Kept.refl _ _).drew)
def EnvD (D : PH) : Prop := ∃ cs t fr, D 0 = some (.cells cs t fr) ∧ ∀ (i : Nat) (x : Value), agCells[i]? = some x → cs[i]? = some x
theorem EnvD.env {B w : World} {D : PH} {l : List HP} (h : EnvD D) (hs : Sat B D w l) : Env w := by
 obtain ⟨cs, t, fr, h1, h2⟩ := h
 have h3 := hs.pool _ _ h1
 exact ⟨lt_of_heap h3, fun i x hx => by rw [cell_of_row w _ i cs t fr h3]; exact h2 i x hx⟩
theorem EnvD.mono {D D' : PH} (h : EnvD D) (le : PH.le D D') : EnvD D' := by
 obtain ⟨cs, t, fr, h1, h2⟩ := h
 exact ⟨cs, t, fr, le _ _ h1, h2⟩
end Go.Proofs.YtgljdkjepdknnaaGreatDoor
