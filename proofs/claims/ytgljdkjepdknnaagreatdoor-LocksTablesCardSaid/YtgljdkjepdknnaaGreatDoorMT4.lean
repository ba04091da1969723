/- The modes of locks: Covers of the program. -/
import Derived.Test.YtgljdkjepdknnaaGreatDoorMT3
set_option maxHeartbeats 64000000
namespace Go.Proofs.YtgljdkjepdknnaaGreatDoor
open Go.ChangeShapes Go.WideShapes Go.ChangeAt Go.RowKit
set_option maxRecDepth 100000
set_option linter.unusedSimpArgs false
theorem pG (a b : Int) (w : World) (h : Tb w) : Calls Tryz.prog 117 #[.int .i64 a, .int .i64 b] w fun e w' => e = .returned (.bool (aN a b)) ∧ Kept (fun _ => False) w w' := by
 have HK := BO ((Kept.refl (fun _ => False) w).drew)
 cases ha : br a
 ·have E := BO (show aN a b = false by unfold aN; simp [ha])
  have HA := BO ha
  clear ha h
  go_enter Tryz.func117, Tryz.ntmps117
  go_upto_region 1 with fail
  refine af [(0, false, 1), (1, true, 0), (2, false, 4), (3, false, 4), (4, true, 0), (5, false, 999), (6, false, 999), (7, false, 999), (8, false, 999), (9, false, 999), (10, false, 999), (11, false, 999), (12, false, 999), (13, false, 999), (14, false, 999), (15, false, 999), (16, false, 999)] (by kernel_rfl) (by kernel_rfl) ?_
  refine ae rfl rfl (fun K hK => ?_); go_simp; refine hK _ ?_; clear hK K
  refine al rfl ?_
  refine aw rfl (fun K hK => ?_)
  go_simp
  refine (cH HA.out _).mono ?_
  rintro e w' ⟨rfl, rfl⟩
  refine hK _ _ ?_
  clear hK K
  refine wpList_nil ?_
  refine And.intro ?_ ?_
  ·go_simp
  refine ae rfl rfl (fun K hK => ?_); go_simp; refine hK _ ?_; clear hK K
  first | (refine am rfl rfl ?_; simp only [Act.put, BP, BQ, BR, BS, BT, BU]) | (refine ak rfl rfl (fun K hK => ?_); go_simp; refine hK _ ?_; clear hK K)
  refine al rfl ?_
  refine bI rfl ?_
  simp only [Act.put, BP, BQ, BR]
  refine wpList_nil ?_
  refine And.intro ?_ ?_
  ·go_simp
  iterate 2 (refine ae rfl rfl (fun K hK => ?_); go_simp; refine hK _ ?_; clear hK K)
  iterate 8 (first | (refine am rfl rfl ?_; simp only [Act.put, BP, BQ, BR, BS, BT, BU]) | (refine ak rfl rfl (fun K hK => ?_); go_simp; refine hK _ ?_; clear hK K))
  iterate 2 (refine ae rfl rfl (fun K hK => ?_); go_simp; refine hK _ ?_; clear hK K)
  refine ap ?_
  go_wp2_with fail
  go_ret
  exact ⟨by rw [E.out]; rfl, HK.out⟩
 ·cases hb : br b
  ·have E := BO (show aN a b = false by unfold aN; simp [hb])
   have HA := BO ha
   have HB := BO hb
   clear ha hb h
   go_enter Tryz.func117, Tryz.ntmps117
   go_upto_region 1 with fail
   refine af [(0, false, 1), (1, true, 0), (2, false, 4), (3, false, 4), (4, true, 0), (5, false, 999), (6, false, 999), (7, false, 999), (8, false, 999), (9, false, 999), (10, false, 999), (11, false, 999), (12, false, 999), (13, false, 999), (14, false, 999), (15, false, 999), (16, false, 999)] (by kernel_rfl) (by kernel_rfl) ?_
   refine ae rfl rfl (fun K hK => ?_); go_simp; refine hK _ ?_; clear hK K
   refine al rfl ?_
   refine aw rfl (fun K hK => ?_)
   go_simp
   refine (cH HA.out _).mono ?_
   rintro e w' ⟨rfl, rfl⟩
   refine hK _ _ ?_
   clear hK K
   refine wpList_nil ?_
   refine And.intro ?_ ?_
   ·go_simp
   refine ae rfl rfl (fun K hK => ?_); go_simp; refine hK _ ?_; clear hK K
   first | (refine am rfl rfl ?_; simp only [Act.put, BP, BQ, BR, BS, BT, BU]) | (refine ak rfl rfl (fun K hK => ?_); go_simp; refine hK _ ?_; clear hK K)
   refine al rfl ?_
   refine aw rfl (fun K hK => ?_)
   go_simp
   refine (cH HB.out _).mono ?_
   rintro e w' ⟨rfl, rfl⟩
   refine hK _ _ ?_
   clear hK K
   refine wpList_nil ?_
   refine And.intro ?_ ?_
   ·go_simp
   iterate 2 (refine ae rfl rfl (fun K hK => ?_); go_simp; refine hK _ ?_; clear hK K)
   iterate 8 (first | (refine am rfl rfl ?_; simp only [Act.put, BP, BQ, BR, BS, BT, BU]) | (refine ak rfl rfl (fun K hK => ?_); go_simp; refine hK _ ?_; clear hK K))
   iterate 2 (refine ae rfl rfl (fun K hK => ?_); go_simp; refine hK _ ?_; clear hK K)
   refine ap ?_
   go_wp2_with fail
   go_ret
   exact ⟨by rw [E.out]; rfl, HK.out⟩
  ·obtain ⟨c0, c1, c2, c3, c4, c5, c6⟩ := h.cells
   clear h
   rcases bB ha with rfl | rfl | rfl | rfl | rfl | rfl | rfl <;> rcases bB hb with rfl | rfl | rfl | rfl | rfl | rfl | rfl
   all_goals
    clear ha hb
    go_enter Tryz.func117, Tryz.ntmps117
    go_upto_region 1 with fail
    refine af [(0, false, 1), (1, true, 0), (2, false, 4), (3, false, 4), (4, true, 0), (5, false, 999), (6, false, 999), (7, false, 999), (8, false, 999), (9, false, 999), (10, false, 999), (11, false, 999), (12, false, 999), (13, false, 999), (14, false, 999), (15, false, 999), (16, false, 999)] (by kernel_rfl) (by kernel_rfl) ?_
    refine ae rfl rfl (fun K hK => ?_); go_simp; refine hK _ ?_; clear hK K
    refine al rfl ?_
    refine aw rfl (fun K hK => ?_)
    go_simp
    refine (cH rfl _).mono ?_
    rintro e w' ⟨rfl, rfl⟩
    refine hK _ _ ?_
    clear hK K
    refine wpList_nil ?_
    refine And.intro ?_ ?_
    ·go_simp
    refine ae rfl rfl (fun K hK => ?_); go_simp; refine hK _ ?_; clear hK K
    first | (refine am rfl rfl ?_; simp only [Act.put, BP, BQ, BR, BS, BT, BU]) | (refine ak rfl rfl (fun K hK => ?_); go_simp; refine hK _ ?_; clear hK K)
    refine al rfl ?_
    refine aw rfl (fun K hK => ?_)
    go_simp
    refine (cH rfl _).mono ?_
    rintro e w' ⟨rfl, rfl⟩
    refine hK _ _ ?_
    clear hK K
    refine wpList_nil ?_
    refine And.intro ?_ ?_
    ·go_simp
    iterate 2 (refine ae rfl rfl (fun K hK => ?_); go_simp; refine hK _ ?_; clear hK K)
    iterate 8 (first | (refine am rfl rfl ?_; simp only [Act.put, BP, BQ, BR, BS, BT, BU]) | (refine ak rfl rfl (fun K hK => ?_); go_simp; refine hK _ ?_; clear hK K))
    iterate 2 (refine ae rfl rfl (fun K hK => ?_); go_simp; refine hK _ ?_; clear hK K)
    refine ap ?_
    go_wp2_with fail
    go_ret
    exact ⟨rfl, HK.out⟩
theorem fx {a b : Int} {r : Bool} (h : aN a b = r) (w : World) (ht : Tb w) : Calls Tryz.prog 117 #[.int .i64 a, .int .i64 b] w fun e w' => e = .returned (.bool r) ∧ Kept (fun _ => False) w w' := h ▸ pG a b w ht
end Go.Proofs.YtgljdkjepdknnaaGreatDoor
