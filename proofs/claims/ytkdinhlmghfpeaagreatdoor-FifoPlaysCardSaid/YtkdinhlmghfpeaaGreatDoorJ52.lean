/- Two rows of claims that are the same in all fields (ratlineref10.Same). -/
import Derived.Test.YtkdinhlmghfpeaaGreatDoorJ48
import Derived.Test.YtkdinhlmghfpeaaGreatDoorJ31
namespace Go.Proofs.YtkdinhlmghfpeaaGreatDoor
open Go.ChangeShapes Go.WideShapes Go.ChangeAt Go.RowKit
set_option maxRecDepth 100000
set_option linter.unusedSimpArgs false

/-- a row of claims that reads -/
def ClmsRd (w : World) (v : Value) (cs : List ClmE) : Prop := Rd w 16 v cs.length (cs.flatMap ClmE.cells) ∧ ∀ c ∈ cs, RdCl w c
theorem ClmsRd.kept {w w' : World} {v : Value} {cs : List ClmE} (h : ClmsRd w v cs) (k : Kept (fun _ => False) w w') : ClmsRd w' v cs := ⟨h.1.kept k (fun _ _ h => h), fun e he => (h.2 e he).kept k⟩
set_option maxHeartbeats 8000000 in
theorem rqSame_ok {w : World} {v1 v2 : Value} {cs ds : List ClmE} (h1 : ClmsRd w v1 cs) (h2 : ClmsRd w v2 ds) (he : cs.map ClmE.c = ds.map ClmE.c) :
    Calls Tryz.prog 32 #[v1, v2] w fun r w' => r = .returned (.bool true) ∧ Kept (fun _ => False) w w' := by
  have hl : cs.length = ds.length := by have := congrArg List.length he; simpa using this
  obtain ⟨_, n1, a1, c1, rfl, _⟩ := id h1.1
  obtain ⟨_, n2, a2, c2, rfl, _⟩ := id h2.1
  rw [← hl] at h2
  unfold maxLen at n1 n2
  have H1 := Lib.hid h1
  have H2 := Lib.hid h2
  have HEQ := Lib.hid he
  have HLL := Lib.hid hl
  rw [← hl]
  obtain ⟨N, hN⟩ : ∃ N, cs.length = N := ⟨_, rfl⟩
  have HN := Lib.hid hN
  rw [hN] at H1 H2 n1 ⊢
  clear h1 h2 he hl hN n2
  go_enter Tryz.func32, Tryz.ntmps32
  go_wp2_with fail
  go_loopw [5] (fun ii wr => ∃ j : Nat, ii = .int .i64 j ∧ j ≤ N ∧ Kept (fun _ => False) w wr) (fun ii _ => N - (intOf ii).toNat)
  case atStart => exact ⟨0, rfl, by omega, Kept.refl _ _⟩
  case round =>
    obtain ⟨j, rfl, hj, hk⟩ := hrel
    have HK := Lib.hid hk
    clear hk
    by_cases hlt : j < N
    · have hji : (j : Int) < (N : Int) := by omega
      obtain ⟨x, hx⟩ : ∃ x, cs[j]? = some x := ⟨cs[j]'(by rw [HN.out]; exact hlt), List.getElem?_eq_getElem _⟩
      obtain ⟨y, hy⟩ : ∃ y, ds[j]? = some y := ⟨ds[j]'(by rw [← HLL.out, HN.out]; exact hlt), List.getElem?_eq_getElem _⟩
      have hxy : x.c = y.c := by
        have := congrArg (fun l => l[j]?) HEQ.out
        simpa [List.getElem?_map, hx, hy] using this
      obtain ⟨g, o, hg, hr⟩ := elem_range ClmE.len (w := wr) (by have := (H1.out.kept HK.out).1; rw [HN.out] at this; exact this) hx HN.out
      obtain ⟨g2, o2, hg2, hr2⟩ := elem_range ClmE.len (w := wr) (by have := (H2.out.kept HK.out).1; rw [← HLL.out, HN.out] at this; exact this) hy (by rw [← HLL.out]; exact HN.out)
      have HEE := Lib.hid (rEqual_eq (w := wr.drew) ((H1.out.kept HK.out).2 x (List.mem_of_getElem? hx)).drew ((H2.out.kept HK.out).2 y (List.mem_of_getElem? hy)).drew hxy)
      subst hg
      subst hg2
      have HL1 := Lib.hid (loadCl (w := wr.drew) hr)
      have HL2 := Lib.hid (loadCl (w := wr.drew) hr2)
      clear hx hy hxy hr hr2
      go_upto_region 6 with fail
      refine wp_region_canon [(0, false, 8), (1, false, 8), (2, false, 8), (3, false, 8), (4, false, 8), (5, false, 8), (6, false, 8), (7, false, 8), (8, true, 0), (9, false, 999)] (by kernel_rfl) (by kernel_rfl) ?_
      iterate 8 (refine wpCan_read rfl rfl (fun K hK => ?_); (first | ((refine still_ld _ _ rfl _ _ rfl _ HL1.out ?_); go_simp) | ((refine still_ld _ _ rfl _ _ rfl _ HL2.out ?_); go_simp) | go_simp); refine hK _ ?_; clear hK K)
      refine wpCan_eff rfl ?_
      refine wpList_do rfl (fun K hK => ?_)
      go_simp
      refine HEE.out.mono ?_
      rintro e4 w4 ⟨rfl, hk4⟩
      have HK4 := Lib.hid (HK.out.drew.trans hk4 (fun _ h => h.elim))
      clear hk4 HEE HL1 HL2
      refine hK _ _ ?_
      clear hK K
      refine wpList_nil ?_
      refine And.intro ?_ ?_
      · go_simp
      iterate 1 (refine wpCan_read rfl rfl (fun K hK => ?_); (first | ((refine still_ld _ _ rfl _ _ rfl _ HL1.out ?_); go_simp) | ((refine still_ld _ _ rfl _ _ rfl _ HL2.out ?_); go_simp) | go_simp); refine hK _ ?_; clear hK K)
      refine wpCan_nil ?_
      go_wp2_with fail
      go_roundw
      case rel => exact ⟨j + 1, by go_num, by omega, HK4.out⟩
      case measure => simp [intOf]; omega
    · have hji : ¬ ((j : Int) < (N : Int)) := by omega
      go_wp2_with fail
      go_ret
      exact ⟨rfl, HK.out⟩
end Go.Proofs.YtkdinhlmghfpeaaGreatDoor
