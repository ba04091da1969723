/- The modes of locks: Covers of the program. -/
import Derived.Test.YtgljdkjepdknnaaGreatDoorML3
set_option maxHeartbeats 64000000
namespace Go.Proofs.YtgljdkjepdknnaaGreatDoor
open Go.ChangeShapes Go.WideShapes Go.ChangeAt Go.RowKit
set_option maxRecDepth 100000
set_option linter.unusedSimpArgs false
theorem su (a b : Int) (w : World) (h : Tb w) : Calls Tryz.prog 117 #[.int .i64 a, .int .i64 b] w fun e w' => e = .returned (.bool (aO a b)) ∧ Kept (fun _ => False) w w' := by
 have HK := Eh ((Kept.refl (fun _ => False) w).drew)
 cases ha : bG a
 ·have E := Eh (show aO a b = false by unfold aO; simp [ha])
  have HA := Eh ha
  clear ha h
  go_enter Tryz.func117, Tryz.ntmps117
  go_upto_region 1 with fail
  refine ag [(0, false, 1), (1, true, 0), (2, false, 4), (3, false, 4), (4, true, 0), (5, false, 999), (6, false, 999), (7, false, 999), (8, false, 999), (9, false, 999), (10, false, 999), (11, false, 999), (12, false, 999), (13, false, 999), (14, false, 999), (15, false, 999), (16, false, 999)] (by kernel_rfl) (by kernel_rfl) ?_
  refine af rfl rfl (fun K hK => ?_); go_simp; refine hK _ ?_; clear hK K
  refine al rfl ?_
  refine aw rfl (fun K hK => ?_)
  go_simp
  refine (cS HA.out _).mono ?_
  rintro e w' ⟨rfl, rfl⟩
  refine hK _ _ ?_
  clear hK K
  refine wpList_nil ?_
  refine And.intro ?_ ?_
  ·go_simp
  refine af rfl rfl (fun K hK => ?_); go_simp; refine hK _ ?_; clear hK K
  first | (refine aq rfl rfl ?_; simp only [Act.put, Ei, Ej, Ek, El, Em, En]) | (refine am rfl rfl (fun K hK => ?_); go_simp; refine hK _ ?_; clear hK K)
  refine al rfl ?_
  refine bO rfl ?_
  simp only [Act.put, Ei, Ej, Ek]
  refine wpList_nil ?_
  refine And.intro ?_ ?_
  ·go_simp
  iterate 2 (refine af rfl rfl (fun K hK => ?_); go_simp; refine hK _ ?_; clear hK K)
  iterate 8 (first | (refine aq rfl rfl ?_; simp only [Act.put, Ei, Ej, Ek, El, Em, En]) | (refine am rfl rfl (fun K hK => ?_); go_simp; refine hK _ ?_; clear hK K))
  iterate 2 (refine af rfl rfl (fun K hK => ?_); go_simp; refine hK _ ?_; clear hK K)
  refine ar ?_
  go_wp2_with fail
  go_ret
  exact ⟨by rw [E.out]; rfl, HK.out⟩
 ·cases hb : bG b
  ·have E := Eh (show aO a b = false by unfold aO; simp [hb])
   have HA := Eh ha
   have HB := Eh hb
   clear ha hb h
   go_enter Tryz.func117, Tryz.ntmps117
   go_upto_region 1 with fail
   refine ag [(0, false, 1), (1, true, 0), (2, false, 4), (3, false, 4), (4, true, 0), (5, false, 999), (6, false, 999), (7, false, 999), (8, false, 999), (9, false, 999), (10, false, 999), (11, false, 999), (12, false, 999), (13, false, 999), (14, false, 999), (15, false, 999), (16, false, 999)] (by kernel_rfl) (by kernel_rfl) ?_
   refine af rfl rfl (fun K hK => ?_); go_simp; refine hK _ ?_; clear hK K
   refine al rfl ?_
   refine aw rfl (fun K hK => ?_)
   go_simp
   refine (cS HA.out _).mono ?_
   rintro e w' ⟨rfl, rfl⟩
   refine hK _ _ ?_
   clear hK K
   refine wpList_nil ?_
   refine And.intro ?_ ?_
   ·go_simp
   refine af rfl rfl (fun K hK => ?_); go_simp; refine hK _ ?_; clear hK K
   first | (refine aq rfl rfl ?_; simp only [Act.put, Ei, Ej, Ek, El, Em, En]) | (refine am rfl rfl (fun K hK => ?_); go_simp; refine hK _ ?_; clear hK K)
   refine al rfl ?_
   refine aw rfl (fun K hK => ?_)
   go_simp
   refine (cS HB.out _).mono ?_
   rintro e w' ⟨rfl, rfl⟩
   refine hK _ _ ?_
   clear hK K
   refine wpList_nil ?_
   refine And.intro ?_ ?_
   ·go_simp
   iterate 2 (refine af rfl rfl (fun K hK => ?_); go_simp; refine hK _ ?_; clear hK K)
   iterate 8 (first | (refine aq rfl rfl ?_; simp only [Act.put, Ei, Ej, Ek, El, Em, En]) | (refine am rfl rfl (fun K hK => ?_); go_simp; refine hK _ ?_; clear hK K))
   iterate 2 (refine af rfl rfl (fun K hK => ?_); go_simp; refine hK _ ?_; clear hK K)
   refine ar ?_
   go_wp2_with fail
   go_ret
   exact ⟨by rw [E.out]; rfl, HK.out⟩
  ·obtain ⟨c0, c1, c2, c3, c4, c5, c6⟩ := h.cells
   clear h
   rcases bU ha with rfl | rfl | rfl | rfl | rfl | rfl | rfl <;> rcases bU hb with rfl | rfl | rfl | rfl | rfl | rfl | rfl
   all_goals
    clear ha hb
    go_enter Tryz.func117, Tryz.ntmps117
    go_upto_region 1 with fail
    refine ag [(0, false, 1), (1, true, 0), (2, false, 4), (3, false, 4), (4, true, 0), (5, false, 999), (6, false, 999), (7, false, 999), (8, false, 999), (9, false, 999), (10, false, 999), (11, false, 999), (12, false, 999), (13, false, 999), (14, false, 999), (15, false, 999), (16, false, 999)] (by kernel_rfl) (by kernel_rfl) ?_
    refine af rfl rfl (fun K hK => ?_); go_simp; refine hK _ ?_; clear hK K
    refine al rfl ?_
    refine aw rfl (fun K hK => ?_)
    go_simp
    refine (cS rfl _).mono ?_
    rintro e w' ⟨rfl, rfl⟩
    refine hK _ _ ?_
    clear hK K
    refine wpList_nil ?_
    refine And.intro ?_ ?_
    ·go_simp
    refine af rfl rfl (fun K hK => ?_); go_simp; refine hK _ ?_; clear hK K
    first | (refine aq rfl rfl ?_; simp only [Act.put, Ei, Ej, Ek, El, Em, En]) | (refine am rfl rfl (fun K hK => ?_); go_simp; refine hK _ ?_; clear hK K)
    refine al rfl ?_
    refine aw rfl (fun K hK => ?_)
    go_simp
    refine (cS rfl _).mono ?_
    rintro e w' ⟨rfl, rfl⟩
    refine hK _ _ ?_
    clear hK K
    refine wpList_nil ?_
    refine And.intro ?_ ?_
    ·go_simp
    iterate 2 (refine af rfl rfl (fun K hK => ?_); go_simp; refine hK _ ?_; clear hK K)
    iterate 8 (first | (refine aq rfl rfl ?_; simp only [Act.put, Ei, Ej, Ek, El, Em, En]) | (refine am rfl rfl (fun K hK => ?_); go_simp; refine hK _ ?_; clear hK K))
    iterate 2 (refine af rfl rfl (fun K hK => ?_); go_simp; refine hK _ ?_; clear hK K)
    refine ar ?_
    go_wp2_with fail
    go_ret
    exact ⟨rfl, HK.out⟩
theorem gb {a b : Int} {r : Bool} (h : aO a b = r) (w : World) (ht : Tb w) : Calls Tryz.prog 117 #[.int .i64 a, .int .i64 b] w fun e w' => e = .returned (.bool r) ∧ Kept (fun _ => False) w w' := h ▸ su a b w ht
end Go.Proofs.YtgljdkjepdknnaaGreatDoor
