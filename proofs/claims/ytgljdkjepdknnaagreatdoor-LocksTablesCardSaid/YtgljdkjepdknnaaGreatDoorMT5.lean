/- Joined texts: The modes of locks: Join of the program. The table of modes in memory. (printed by genq.py) -/
import Derived.Test.YtgljdkjepdknnaaGreatDoorMT4
import Derived.Test.YtgljdkjepdknnaaGreatDoorMT2
set_option maxHeartbeats 64000000
namespace Go.Proofs.YtgljdkjepdknnaaGreatDoor
open Go.ChangeShapes Go.WideShapes Go.ChangeAt Go.RowKit
set_option maxRecDepth 100000
set_option linter.unusedSimpArgs false
theorem ja (a b : Int) : ∀ (n : Nat) (x : Int), 0 ≤ x ∧ x ≤ 6 → n ≤ 7 → 0 ≤ (List.range n).foldl (eH a b) x ∧ (List.range n).foldl (eH a b) x ≤ 6
 | 0, x, h, _ => h
 | n + 1, x, h, hn => by
  rw [List.range_succ, List.foldl_append]
  have ih := ja a b n x h (by omega)
  show 0 ≤ eH a b ((List.range n).foldl (eH a b) x) n ∧ eH a b ((List.range n).foldl (eH a b) x) n ≤ 6
  generalize (List.range n).foldl (eH a b) x = y at *
  unfold eH
  split <;> omega
theorem Join_ok (a b : Int) (w : World) (hz : 0 < w.heap.size) (h : Tb w) : Calls Tryz.prog 121 #[.int .i64 a, .int .i64 b] w fun e w' => e = .returned (.int .i64 (dl a b)) ∧ Kept (fun _ => False) w w' := by
 have HT := BO h
 clear h
 cases ha : br a
 ·have E := BO (show dl a b = 0 by unfold dl; simp [ha])
  have HA := BO ha
  clear ha
  go_enter Tryz.func121, Tryz.ntmps121
  go_wp2_with (go_at_call 79; refine (cH HA.out _).mono ?_; rintro e w' ⟨rfl, rfl⟩)
  go_ret
  exact ⟨by rw [E.out]; rfl, Kept.refl _ _⟩
 cases hb : br b
 ·have E := BO (show dl a b = 0 by unfold dl; simp [hb])
  have HA := BO ha
  have HB := BO hb
  clear ha hb
  go_enter Tryz.func121, Tryz.ntmps121
  go_wp2_with (go_at_call 79; first | (refine (cH HA.out _).mono ?_; rintro e w' ⟨rfl, rfl⟩) | (refine (cH HB.out _).mono ?_; rintro e w' ⟨rfl, rfl⟩))
  go_ret
  exact ⟨by rw [E.out]; rfl, Kept.refl _ _⟩
 have E := BO (show dl a b = (List.range 7).foldl (eH a b) 6 by unfold dl; simp [ha, hb])
 have HA := BO ha
 have HB := BO hb
 clear ha hb
 go_enter Tryz.func121, Tryz.ntmps121
 go_wp2_with (go_at_call 79; first | (refine (cH HA.out _).mono ?_; rintro e w' ⟨rfl, rfl⟩) | (refine (cH HB.out _).mono ?_; rintro e w' ⟨rfl, rfl⟩))
 go_loopw [5, 6] (fun x i wr => ∃ m : Nat, i = .int .i64 m ∧ m ≤ 7 ∧ x = .int .i64 ((List.range m).foldl (eH a b) 6) ∧ Kept (fun _ => False) w wr) (fun _ i _ => 7 - (intOf i).toNat)
 case atStart => exact ⟨0, rfl, by omega, rfl, Kept.refl _ _⟩
 case round =>
  obtain ⟨m, rfl, hm, rfl, hk⟩ := hrel
  have HK := BO hk
  have Bm := BO (HT.out.kept hz hk)
  clear hk
  by_cases hlt : m ≤ 6
  ·have hi : (m : Int) ≤ 6 := by omega
   have hs := show (List.range (m + 1)).foldl (eH a b) 6 = eH a b ((List.range m).foldl (eH a b) 6) m by rw [List.range_succ, List.foldl_append]; rfl
   have hbd := ja a b m 6 (by omega) (by omega)
   generalize (List.range m).foldl (eH a b) 6 = x at *
   have tD := BO hs
   clear hs
   have HX : Hid ((aN m a && aN m b && aN x m) = (aN m a && aN m b && aN x m)) := BO rfl
   cases c1 : aN m a <;> cases c2 : aN m b <;> cases c3 : aN x m
   all_goals
    have C1 := BO c1
    have C2 := BO c2
    have C3 := BO c3
    have HJ := BO (show eH a b x m = (if (aN m a && aN m b && aN x m) = true then (m : Int) else x) from rfl)
    rw [c1, c2, c3] at HJ
    simp only [Bool.and_true, Bool.and_false, Bool.false_and, Bool.true_and, Bool.false_eq_true, if_true, if_false] at HJ
    clear c1 c2 c3
    have tZ : Hid (Kept (fun _ => False) w wr ∧ Tb wr) := BO ⟨HK.out, Bm.out⟩
    go_wp2_with (go_at_call 117; first | (refine (fx C1.out _ tZ.out.2).mono ?_; rintro e w' ⟨rfl, hk'⟩; replace tZ := BO (And.intro (tZ.out.1.trans hk' (fun _ h => h.elim)) (HT.out.kept hz (tZ.out.1.trans hk' (fun _ h => h.elim)))); clear hk' C1) | (refine (fx C2.out _ tZ.out.2).mono ?_; rintro e w' ⟨rfl, hk'⟩; replace tZ := BO (And.intro (tZ.out.1.trans hk' (fun _ h => h.elim)) (HT.out.kept hz (tZ.out.1.trans hk' (fun _ h => h.elim)))); clear hk' C2) | (refine (fx C3.out _ tZ.out.2).mono ?_; rintro e w' ⟨rfl, hk'⟩; replace tZ := BO (And.intro (tZ.out.1.trans hk' (fun _ h => h.elim)) (HT.out.kept hz (tZ.out.1.trans hk' (fun _ h => h.elim)))); clear hk' C3))
    go_roundw
    case rel => exact ⟨m + 1, by go_num, by omega, by rw [tD.out, HJ.out], tZ.out.1⟩
    case measure => simp [intOf]; omega
  ·have hi : ¬ (m : Int) ≤ 6 := by omega
   obtain rfl : m = 7 := by omega
   go_wp2_with fail
   go_ret
   exact ⟨by rw [E.out]; rfl, HK.out⟩
abbrev Env (w : World) : Prop := 0 < w.heap.size ∧ Tb w
theorem Env.kept {w w' : World} (h : Env w) (k : Kept (fun _ => False) w w') : Env w' := ⟨Nat.lt_of_lt_of_le h.1 k.size, h.2.kept h.1 k⟩
theorem Env.drew {w : World} (h : Env w) : Env w.drew := h.kept ((Kept.refl _ _).drew)
def EnvD (D : PH) : Prop := ∃ cs t fr, D 0 = some (.cells cs t fr) ∧ ∀ (i : Nat) (x : Value), agCells[i]? = some x → cs[i]? = some x
theorem EnvD.env {B w : World} {D : PH} {l : List HP} (h : EnvD D) (hs : Sat B D w l) : Env w := by
 obtain ⟨cs, t, fr, h1, h2⟩ := h
 have h3 := hs.pool _ _ h1
 exact ⟨aI h3, fun i x hx => by rw [cell_of_row w _ i cs t fr h3]; exact h2 i x hx⟩
theorem EnvD.mono {D D' : PH} (h : EnvD D) (le : PH.le D D') : EnvD D' := by
 obtain ⟨cs, t, fr, h1, h2⟩ := h
 exact ⟨cs, t, fr, le _ _ h1, h2⟩
end Go.Proofs.YtgljdkjepdknnaaGreatDoor
