/- Two rows of claims that are the same in all fields (ratlineref10.Same). -/
import Derived.Test.YtgljdkjepdknnaaGreatDoorMT33
import Derived.Test.YtgljdkjepdknnaaGreatDoorMT17
set_option maxHeartbeats 64000000
namespace Go.Proofs.YtgljdkjepdknnaaGreatDoor
open Go.ChangeShapes Go.WideShapes Go.ChangeAt Go.RowKit
set_option maxRecDepth 100000
set_option linter.unusedSimpArgs false
def ClmsRd (w : World) (v : Value) (cs : List ClmE) : Prop := Rd w 16 v cs.length (cs.flatMap ClmE.cells) ∧ ∀ c ∈ cs, RdCl w c
theorem ClmsRd.kept {w w' : World} {v : Value} {cs : List ClmE} (h : ClmsRd w v cs) (k : Kept (fun _ => False) w w') : ClmsRd w' v cs := ⟨h.1.kept k (fun _ _ h => h), fun e he => (h.2 e he).kept k⟩
theorem qK {w : World} {v1 v2 : Value} {cs ds : List ClmE} (h1 : ClmsRd w v1 cs) (h2 : ClmsRd w v2 ds) (he : cs.map ClmE.c = ds.map ClmE.c) :
  Calls Tryz.prog 21 #[v1, v2] w fun r w' => r = .returned (.bool true) ∧ Kept (fun _ => False) w w' := by
 have hl : cs.length = ds.length := by have := congrArg List.length he; simpa using this
 obtain ⟨_, n1, a1, c1, rfl, _⟩ := id h1.1
 obtain ⟨_, n2, a2, c2, rfl, _⟩ := id h2.1
 rw [← hl] at h2
 unfold maxLen at n1 n2
 have H1 := BO h1
 have H2 := BO h2
 have wj := BO he
 have yZ := BO hl
 rw [← hl]
 obtain ⟨N, hN⟩ : ∃ N, cs.length = N := ⟨_, rfl⟩
 have HN := BO hN
 rw [hN] at H1 H2 n1 ⊢
 clear h1 h2 he hl hN n2
 go_enter Tryz.func21, Tryz.ntmps21
 go_wp2_with fail
 go_loopw [5] (fun ii wr => ∃ j : Nat, ii = .int .i64 j ∧ j ≤ N ∧ Kept (fun _ => False) w wr) (fun ii _ => N - (intOf ii).toNat)
 case atStart => exact ⟨0, rfl, by omega, Kept.refl _ _⟩
 case round =>
  obtain ⟨j, rfl, hj, hk⟩ := hrel
  have HK := BO hk
  clear hk
  by_cases hlt : j < N
  ·have hji : (j : Int) < (N : Int) := by omega
   obtain ⟨x, hx⟩ : ∃ x, cs[j]? = some x := ⟨cs[j]'(by rw [HN.out]; exact hlt), List.getElem?_eq_getElem _⟩
   obtain ⟨y, hy⟩ : ∃ y, ds[j]? = some y := ⟨ds[j]'(by rw [← yZ.out, HN.out]; exact hlt), List.getElem?_eq_getElem _⟩
   have hxy : x.c = y.c := by
    have := congrArg (fun l => l[j]?) wj.out
    simpa [List.getElem?_map, hx, hy] using this
   obtain ⟨g, o, hg, hr⟩ := aD ClmE.len (w := wr) (by have := (H1.out.kept HK.out).1; rw [HN.out] at this; exact this) hx HN.out
   obtain ⟨g2, o2, hg2, hr2⟩ := aD ClmE.len (w := wr) (by have := (H2.out.kept HK.out).1; rw [← yZ.out, HN.out] at this; exact this) hy (by rw [← yZ.out]; exact HN.out)
   have Be := BO (qG (w := wr.drew) ((H1.out.kept HK.out).2 x (List.mem_of_getElem? hx)).drew ((H2.out.kept HK.out).2 y (List.mem_of_getElem? hy)).drew hxy)
   subst hg
   subst hg2
   have tA := BO (ay (w := wr.drew) hr)
   have tU := BO (ay (w := wr.drew) hr2)
   clear hx hy hxy hr hr2
   go_upto_region 6 with fail
   refine af [(0, false, 8), (1, false, 8), (2, false, 8), (3, false, 8), (4, false, 8), (5, false, 8), (6, false, 8), (7, false, 8), (8, true, 0), (9, false, 999)] (by kernel_rfl) (by kernel_rfl) ?_
   iterate 8 (refine ae rfl rfl (fun K hK => ?_); (first | ((refine aj _ _ rfl _ _ rfl _ tA.out ?_); go_simp) | ((refine aj _ _ rfl _ _ rfl _ tU.out ?_); go_simp) | go_simp); refine hK _ ?_; clear hK K)
   refine al rfl ?_
   refine aw rfl (fun K hK => ?_)
   go_simp
   refine Be.out.mono ?_
   rintro e4 w4 ⟨rfl, hk4⟩
   have ud := BO (HK.out.drew.trans hk4 (fun _ h => h.elim))
   clear hk4 Be tA tU
   refine hK _ _ ?_
   clear hK K
   refine wpList_nil ?_
   refine And.intro ?_ ?_
   ·go_simp
   refine ae rfl rfl (fun K hK => ?_); (first | ((refine aj _ _ rfl _ _ rfl _ tA.out ?_); go_simp) | ((refine aj _ _ rfl _ _ rfl _ tU.out ?_); go_simp) | go_simp); refine hK _ ?_; clear hK K
   refine ap ?_
   go_wp2_with fail
   go_roundw
   case rel => exact ⟨j + 1, by go_num, by omega, ud.out⟩
   case measure => simp [intOf]; omega
  ·have hji : ¬ ((j : Int) < (N : Int)) := by omega
   go_wp2_with fail
   go_ret
   exact ⟨rfl, HK.out⟩
end Go.Proofs.YtgljdkjepdknnaaGreatDoor
