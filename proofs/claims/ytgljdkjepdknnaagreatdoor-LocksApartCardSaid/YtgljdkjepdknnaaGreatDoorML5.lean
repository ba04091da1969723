/- Joined texts: The modes of locks: Join of the program. The table of modes in memory. (printed by genq.py) -/
import Derived.Test.YtgljdkjepdknnaaGreatDoorML4
import Derived.Test.YtgljdkjepdknnaaGreatDoorML2
set_option maxHeartbeats 64000000
namespace Go.Proofs.YtgljdkjepdknnaaGreatDoor
open Go.ChangeShapes Go.WideShapes Go.ChangeAt Go.RowKit
set_option maxRecDepth 100000
set_option linter.unusedSimpArgs false
theorem j7 (a b : Int) : ∀ (n : Nat) (x : Int), 0 ≤ x ∧ x ≤ 6 → n ≤ 7 → 0 ≤ (List.range n).foldl (fe a b) x ∧ (List.range n).foldl (fe a b) x ≤ 6
 | 0, x, h, _ => h
 | n + 1, x, h, hn => by
  rw [List.range_succ, List.foldl_append]
  have ih := j7 a b n x h (by omega)
  show 0 ≤ fe a b ((List.range n).foldl (fe a b) x) n ∧ fe a b ((List.range n).foldl (fe a b) x) n ≤ 6
  generalize (List.range n).foldl (fe a b) x = y at *
  unfold fe
  split <;> omega
theorem Join_ok (a b : Int) (w : World) (hz : 0 < w.heap.size) (h : Tb w) : Calls Tryz.prog 121 #[.int .i64 a, .int .i64 b] w fun e w' => e = .returned (.int .i64 (dC a b)) ∧ Kept (fun _ => False) w w' := by
 have HT := Eh h
 clear h
 cases ha : bG a
 ·have E := Eh (show dC a b = 0 by unfold dC; simp [ha])
  have HA := Eh ha
  clear ha
  go_enter Tryz.func121, Tryz.ntmps121
  go_wp2_with (go_at_call 79; refine (cS HA.out _).mono ?_; rintro e w' ⟨rfl, rfl⟩)
  go_ret
  exact ⟨by rw [E.out]; rfl, Kept.refl _ _⟩
 cases hb : bG b
 ·have E := Eh (show dC a b = 0 by unfold dC; simp [hb])
  have HA := Eh ha
  have HB := Eh hb
  clear ha hb
  go_enter Tryz.func121, Tryz.ntmps121
  go_wp2_with (go_at_call 79; first | (refine (cS HA.out _).mono ?_; rintro e w' ⟨rfl, rfl⟩) | (refine (cS HB.out _).mono ?_; rintro e w' ⟨rfl, rfl⟩))
  go_ret
  exact ⟨by rw [E.out]; rfl, Kept.refl _ _⟩
 have E := Eh (show dC a b = (List.range 7).foldl (fe a b) 6 by unfold dC; simp [ha, hb])
 have HA := Eh ha
 have HB := Eh hb
 clear ha hb
 go_enter Tryz.func121, Tryz.ntmps121
 go_wp2_with (go_at_call 79; first | (refine (cS HA.out _).mono ?_; rintro e w' ⟨rfl, rfl⟩) | (refine (cS HB.out _).mono ?_; rintro e w' ⟨rfl, rfl⟩))
 go_loopw [5, 6] (fun x i wr => ∃ m : Nat, i = .int .i64 m ∧ m ≤ 7 ∧ x = .int .i64 ((List.range m).foldl (fe a b) 6) ∧ Kept (fun _ => False) w wr) (fun _ i _ => 7 - (intOf i).toNat)
 case atStart => exact ⟨0, rfl, by omega, rfl, Kept.refl _ _⟩
 case round =>
  obtain ⟨m, rfl, hm, rfl, hk⟩ := hrel
  have HK := Eh hk
  have DB := Eh (HT.out.kept hz hk)
  clear hk
  by_cases hlt : m ≤ 6
  ·have hi : (m : Int) ≤ 6 := by omega
   have hs := show (List.range (m + 1)).foldl (fe a b) 6 = fe a b ((List.range m).foldl (fe a b) 6) m by rw [List.range_succ, List.foldl_append]; rfl
   have hbd := j7 a b m 6 (by omega) (by omega)
   generalize (List.range m).foldl (fe a b) 6 = x at *
   have vN := Eh hs
   clear hs
   have HX : Hid ((aO m a && aO m b && aO x m) = (aO m a && aO m b && aO x m)) := Eh rfl
   cases c1 : aO m a <;> cases c2 : aO m b <;> cases c3 : aO x m
   all_goals
    have C1 := Eh c1
    have C2 := Eh c2
    have C3 := Eh c3
    have HJ := Eh (show fe a b x m = (if (aO m a && aO m b && aO x m) = true then (m : Int) else x) from rfl)
    rw [c1, c2, c3] at HJ
    simp only [Bool.and_true, Bool.and_false, Bool.false_and, Bool.true_and, Bool.false_eq_true, if_true, if_false] at HJ
    clear c1 c2 c3
    have wt : Hid (Kept (fun _ => False) w wr ∧ Tb wr) := Eh ⟨HK.out, DB.out⟩
    go_wp2_with (go_at_call 117; first | (refine (gb C1.out _ wt.out.2).mono ?_; rintro e w' ⟨rfl, hk'⟩; replace wt := Eh (And.intro (wt.out.1.trans hk' (fun _ h => h.elim)) (HT.out.kept hz (wt.out.1.trans hk' (fun _ h => h.elim)))); clear hk' C1) | (refine (gb C2.out _ wt.out.2).mono ?_; rintro e w' ⟨rfl, hk'⟩; replace wt := Eh (And.intro (wt.out.1.trans hk' (fun _ h => h.elim)) (HT.out.kept hz (wt.out.1.trans hk' (fun _ h => h.elim)))); clear hk' C2) | (refine (gb C3.out _ wt.out.2).mono ?_; rintro e w' ⟨rfl, hk'⟩; replace wt := Eh (And.intro (wt.out.1.trans hk' (fun _ h => h.elim)) (HT.out.kept hz (wt.out.1.trans hk' (fun _ h => h.elim)))); clear hk' C3))
    go_roundw
    case rel => exact ⟨m + 1, by go_num, by omega, by rw [vN.out, HJ.out], wt.out.1⟩
    case measure => simp [intOf]; omega
  ·have hi : ¬ (m : Int) ≤ 6 := by omega
   obtain rfl : m = 7 := by omega
   go_wp2_with fail
   go_ret
   exact ⟨by rw [E.out]; rfl, HK.out⟩
abbrev Env (w : World) : Prop := 0 < w.heap.size ∧ Tb w
theorem Env.kept {w w' : World} (h : Env w) (k : Kept (fun _ => False) w w') : Env w' := ⟨Nat.lt_of_lt_of_le h.1 k.size, h.2.kept h.1 k⟩
theorem Env.drew {w : World} (h : Env w) : Env w.drew := h.kept ((Kept.refl _ _).drew)
def EnvD (D : PH) : Prop := ∃ cs t fr, D 0 = some (.cells cs t fr) ∧ ∀ (i : Nat) (x : Value), agCells[i]? = some x → cs[i]? = some x
theorem EnvD.env {B w : World} {D : PH} {l : List HP} (h : EnvD D) (hs : Sat B D w l) : Env w := by
 obtain ⟨cs, t, fr, h1, h2⟩ := h
 have h3 := hs.pool _ _ h1
 exact ⟨aH h3, fun i x hx => by rw [cell_of_row w _ i cs t fr h3]; exact h2 i x hx⟩
theorem EnvD.mono {D D' : PH} (h : EnvD D) (le : PH.le D D') : EnvD D' := by
 obtain ⟨cs, t, fr, h1, h2⟩ := h
 exact ⟨cs, t, fr, le _ _ h1, h2⟩
end Go.Proofs.YtgljdkjepdknnaaGreatDoor
