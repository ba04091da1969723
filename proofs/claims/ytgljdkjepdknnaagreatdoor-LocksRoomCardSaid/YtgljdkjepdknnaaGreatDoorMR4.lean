/- The modes of locks: Covers of the program. -/
import Derived.Test.YtgljdkjepdknnaaGreatDoorMR3
namespace Go.Proofs.YtgljdkjepdknnaaGreatDoor
open Go.ChangeShapes Go.WideShapes Go.ChangeAt Go.RowKit
set_option maxRecDepth 100000
set_option linter.unusedSimpArgs false

set_option maxHeartbeats 8000000 in
theorem Covers_ok (a b : Int) (w : World) (h : Tb w) : Calls Tryz.prog 117 #[.int .i64 a, .int .i64 b] w fun e w' => e = .returned (.bool (coversM a b)) ∧ Kept (fun _ => False) w w' := by
 have HK := Lib.hid ((Kept.refl (fun _ => False) w).drew)
 cases ha : modeR a
 ·have E := Lib.hid (show coversM a b = false by unfold coversM; simp [ha])
  have HA := Lib.hid ha
  clear ha h
  go_enter Tryz.func117, Tryz.ntmps117
  go_upto_region 1 with fail
  refine wp_region_canon [(0, false, 1), (1, true, 0), (2, false, 4), (3, false, 4), (4, true, 0), (5, false, 999), (6, false, 999), (7, false, 999), (8, false, 999), (9, false, 999), (10, false, 999), (11, false, 999), (12, false, 999), (13, false, 999), (14, false, 999), (15, false, 999), (16, false, 999)] (by kernel_rfl) (by kernel_rfl) ?_
  iterate 1 (refine wpCan_read rfl rfl (fun K hK => ?_); go_simp; refine hK _ ?_; clear hK K)
  refine wpCan_eff rfl ?_
  refine wpList_do rfl (fun K hK => ?_)
  go_simp
  refine (Right_is HA.out _).mono ?_
  rintro e w' ⟨rfl, rfl⟩
  refine hK _ _ ?_
  clear hK K
  refine wpList_nil ?_
  refine And.intro ?_ ?_
  ·go_simp
  iterate 1 (refine wpCan_read rfl rfl (fun K hK => ?_); go_simp; refine hK _ ?_; clear hK K)
  first | (refine wpCan_no rfl rfl ?_; simp only [Act.put, List.setIfInBounds_toArray, List.set_cons_succ, List.set_cons_zero, List.getElem_toArray, List.getElem_cons_succ, List.getElem_cons_zero]) | (refine wpCan_yes rfl rfl (fun K hK => ?_); go_simp; refine hK _ ?_; clear hK K)
  refine wpCan_eff rfl ?_
  refine wpList_not rfl ?_
  simp only [Act.put, List.setIfInBounds_toArray, List.set_cons_succ, List.set_cons_zero]
  refine wpList_nil ?_
  refine And.intro ?_ ?_
  ·go_simp
  iterate 2 (refine wpCan_read rfl rfl (fun K hK => ?_); go_simp; refine hK _ ?_; clear hK K)
  iterate 8 (first | (refine wpCan_no rfl rfl ?_; simp only [Act.put, List.setIfInBounds_toArray, List.set_cons_succ, List.set_cons_zero, List.getElem_toArray, List.getElem_cons_succ, List.getElem_cons_zero]) | (refine wpCan_yes rfl rfl (fun K hK => ?_); go_simp; refine hK _ ?_; clear hK K))
  iterate 2 (refine wpCan_read rfl rfl (fun K hK => ?_); go_simp; refine hK _ ?_; clear hK K)
  refine wpCan_nil ?_
  go_wp2_with fail
  go_ret
  exact ⟨by rw [E.out]; rfl, HK.out⟩
 ·cases hb : modeR b
  ·have E := Lib.hid (show coversM a b = false by unfold coversM; simp [hb])
   have HA := Lib.hid ha
   have HB := Lib.hid hb
   clear ha hb h
   go_enter Tryz.func117, Tryz.ntmps117
   go_upto_region 1 with fail
   refine wp_region_canon [(0, false, 1), (1, true, 0), (2, false, 4), (3, false, 4), (4, true, 0), (5, false, 999), (6, false, 999), (7, false, 999), (8, false, 999), (9, false, 999), (10, false, 999), (11, false, 999), (12, false, 999), (13, false, 999), (14, false, 999), (15, false, 999), (16, false, 999)] (by kernel_rfl) (by kernel_rfl) ?_
   iterate 1 (refine wpCan_read rfl rfl (fun K hK => ?_); go_simp; refine hK _ ?_; clear hK K)
   refine wpCan_eff rfl ?_
   refine wpList_do rfl (fun K hK => ?_)
   go_simp
   refine (Right_is HA.out _).mono ?_
   rintro e w' ⟨rfl, rfl⟩
   refine hK _ _ ?_
   clear hK K
   refine wpList_nil ?_
   refine And.intro ?_ ?_
   ·go_simp
   iterate 1 (refine wpCan_read rfl rfl (fun K hK => ?_); go_simp; refine hK _ ?_; clear hK K)
   first | (refine wpCan_no rfl rfl ?_; simp only [Act.put, List.setIfInBounds_toArray, List.set_cons_succ, List.set_cons_zero, List.getElem_toArray, List.getElem_cons_succ, List.getElem_cons_zero]) | (refine wpCan_yes rfl rfl (fun K hK => ?_); go_simp; refine hK _ ?_; clear hK K)
   refine wpCan_eff rfl ?_
   refine wpList_do rfl (fun K hK => ?_)
   go_simp
   refine (Right_is HB.out _).mono ?_
   rintro e w' ⟨rfl, rfl⟩
   refine hK _ _ ?_
   clear hK K
   refine wpList_nil ?_
   refine And.intro ?_ ?_
   ·go_simp
   iterate 2 (refine wpCan_read rfl rfl (fun K hK => ?_); go_simp; refine hK _ ?_; clear hK K)
   iterate 8 (first | (refine wpCan_no rfl rfl ?_; simp only [Act.put, List.setIfInBounds_toArray, List.set_cons_succ, List.set_cons_zero, List.getElem_toArray, List.getElem_cons_succ, List.getElem_cons_zero]) | (refine wpCan_yes rfl rfl (fun K hK => ?_); go_simp; refine hK _ ?_; clear hK K))
   iterate 2 (refine wpCan_read rfl rfl (fun K hK => ?_); go_simp; refine hK _ ?_; clear hK K)
   refine wpCan_nil ?_
   go_wp2_with fail
   go_ret
   exact ⟨by rw [E.out]; rfl, HK.out⟩
  ·obtain ⟨c0, c1, c2, c3, c4, c5, c6⟩ := h.cells
   clear h
   rcases modeR_cases ha with rfl | rfl | rfl | rfl | rfl | rfl | rfl <;> rcases modeR_cases hb with rfl | rfl | rfl | rfl | rfl | rfl | rfl
   all_goals
    clear ha hb
    go_enter Tryz.func117, Tryz.ntmps117
    go_upto_region 1 with fail
    refine wp_region_canon [(0, false, 1), (1, true, 0), (2, false, 4), (3, false, 4), (4, true, 0), (5, false, 999), (6, false, 999), (7, false, 999), (8, false, 999), (9, false, 999), (10, false, 999), (11, false, 999), (12, false, 999), (13, false, 999), (14, false, 999), (15, false, 999), (16, false, 999)] (by kernel_rfl) (by kernel_rfl) ?_
    iterate 1 (refine wpCan_read rfl rfl (fun K hK => ?_); go_simp; refine hK _ ?_; clear hK K)
    refine wpCan_eff rfl ?_
    refine wpList_do rfl (fun K hK => ?_)
    go_simp
    refine (Right_is rfl _).mono ?_
    rintro e w' ⟨rfl, rfl⟩
    refine hK _ _ ?_
    clear hK K
    refine wpList_nil ?_
    refine And.intro ?_ ?_
    ·go_simp
    iterate 1 (refine wpCan_read rfl rfl (fun K hK => ?_); go_simp; refine hK _ ?_; clear hK K)
    first | (refine wpCan_no rfl rfl ?_; simp only [Act.put, List.setIfInBounds_toArray, List.set_cons_succ, List.set_cons_zero, List.getElem_toArray, List.getElem_cons_succ, List.getElem_cons_zero]) | (refine wpCan_yes rfl rfl (fun K hK => ?_); go_simp; refine hK _ ?_; clear hK K)
    refine wpCan_eff rfl ?_
    refine wpList_do rfl (fun K hK => ?_)
    go_simp
    refine (Right_is rfl _).mono ?_
    rintro e w' ⟨rfl, rfl⟩
    refine hK _ _ ?_
    clear hK K
    refine wpList_nil ?_
    refine And.intro ?_ ?_
    ·go_simp
    iterate 2 (refine wpCan_read rfl rfl (fun K hK => ?_); go_simp; refine hK _ ?_; clear hK K)
    iterate 8 (first | (refine wpCan_no rfl rfl ?_; simp only [Act.put, List.setIfInBounds_toArray, List.set_cons_succ, List.set_cons_zero, List.getElem_toArray, List.getElem_cons_succ, List.getElem_cons_zero]) | (refine wpCan_yes rfl rfl (fun K hK => ?_); go_simp; refine hK _ ?_; clear hK K))
    iterate 2 (refine wpCan_read rfl rfl (fun K hK => ?_); go_simp; refine hK _ ?_; clear hK K)
    refine wpCan_nil ?_
    go_wp2_with fail
    go_ret
    exact ⟨rfl, HK.out⟩
theorem Covers_is {a b : Int} {r : Bool} (h : coversM a b = r) (w : World) (ht : Tb w) : Calls Tryz.prog 117 #[.int .i64 a, .int .i64 b] w fun e w' => e = .returned (.bool r) ∧ Kept (fun _ => False) w w' := h ▸ Covers_ok a b w ht
end Go.Proofs.YtgljdkjepdknnaaGreatDoor
