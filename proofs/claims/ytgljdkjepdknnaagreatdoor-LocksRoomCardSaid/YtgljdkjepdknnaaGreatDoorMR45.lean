/- The document's images (ratlineref09.images). -/
import Derived.Test.YtgljdkjepdknnaaGreatDoorMR44
import Derived.Test.YtgljdkjepdknnaaGreatDoorMR31
import Derived.Test.YtgljdkjepdknnaaGreatDoorMR22
namespace Go.Proofs.YtgljdkjepdknnaaGreatDoor
open Go.ChangeShapes Go.WideShapes Go.ChangeAt Go.RowKit
set_option maxRecDepth 100000
set_option linter.unusedSimpArgs false

def imagesK (c : List Bool) (x : Clm) : Bool := if x.mode = 6 then x.imgs.all (imgOk c x.key) else x.imgs.isEmpty
theorem all_snocR {α : Type} (q : α → Bool) {l : List α} {j : Nat} {x : α} (h : l[j]? = some x) : (l.take (j + 1)).all q = ((l.take j).all q && q x) := by
 rw [List.take_add_one, h]; simp
theorem all_no_atR {α : Type} (q : α → Bool) {l : List α} {j : Nat} {x : α} (h : l[j]? = some x) (hq : q x = false) : l.all q = false := List.all_eq_false.2 ⟨x, List.mem_of_getElem? h, by rw [hq]; simp⟩
set_option maxHeartbeats 8000000 in
theorem rimages_ok {w : World} {cv : Value} {c : List Bool} {x : ClmE} (hc : ColRd w cv c) (hx : RdCl w x) : Calls Tryz.prog 152 #[.agg #[cv], .agg x.cells.toArray] w fun r w' => r = .returned (.bool (imagesK c x.c)) ∧ Kept (fun _ => False) w w' := by
 obtain ⟨W1, hW1, hk1, hb1, hb2⟩ := alloc2 w #[cv] x.cells.toArray tTab tCl
 have HC1 := Lib.hid (Rd.kept hc hk1 (fun _ _ h => h))
 have HP := Lib.hid (show imagesK c x.c = if x.mode = 6 then x.imgs.all (imgOk c x.key) else x.imgs.isEmpty from rfl)
 have HW1 := Lib.hid hW1
 have HK1 := Lib.hid hk1
 have HB1 := Lib.hid hb1
 have HB2 := Lib.hid hb2
 have HY := Lib.hid (hx.1.kept hk1)
 obtain ⟨ya, yc, hsl, n1, m1, _⟩ := hx.1.shape
 have HSL := Lib.hid hsl
 obtain ⟨_, _, ca, cc, rfl, _⟩ := hc
 obtain ⟨rr, hrr⟩ : ∃ rr, rr = imagesK c x.c := ⟨_, rfl⟩
 rw [← hrr]
 have HRR := Lib.hid hrr
 obtain ⟨N, hN⟩ : ∃ N, x.imgs.length = N := ⟨_, rfl⟩
 have HN := Lib.hid hN
 rw [hN] at HSL n1 m1
 rw [hsl, hN] at HY
 clear hW1 hk1 hb1 hb2 hx hsl hrr hN
 by_cases hm : x.mode = 6
 ·have HM := Lib.hid hm
  have HR := Lib.hid (show rr = x.imgs.all (imgOk c x.key) by rw [HRR.out, HP.out, if_pos hm])
  clear HP HRR hm
  go_enter Tryz.func152, Tryz.ntmps152
  go_upto_region 1 with fail
  rw [← HW1.out]
  clear HW1
  generalize w.heap.size + 1 = b2 at *
  generalize w.heap.size = b1 at *
  obtain ⟨y2, y6⟩ := boxClm2 HB2.out
  rw [HM.out] at y2
  rw [HSL.out] at y6
  go_wp2_with fail
  go_loopw [5] (fun i wr => ∃ j : Nat, i = .int .i64 j ∧ j ≤ N ∧ (x.imgs.take j).all (imgOk c x.key) = true ∧ Kept (fun _ => False) W1 wr) (fun i _ => N - (intOf i).toNat)
  case atStart => exact ⟨0, rfl, by omega, rfl, Kept.refl _ _⟩
  case round =>
   obtain ⟨j, rfl, hj, hn, hk⟩ := hrel
   have HNO := Lib.hid hn
   have HK := Lib.hid hk
   clear hn hk y2 y6
   have y6 := (boxClm2 (kept_blk HK.out HB2.out)).2
   rw [HSL.out] at y6
   by_cases hlt : j < N
   ·have hji : (j : Int) < (N : Int) := by omega
    obtain ⟨r, hr⟩ : ∃ r, x.imgs[j]? = some r := ⟨x.imgs[j]'(by rw [HN.out]; exact hlt), List.getElem?_eq_getElem _⟩
    obtain ⟨g2, o2, ra2, rc2, hg2, z2, hrow2, hl2, hrc2⟩ := rowAtR (HY.out.kept HK.out) hr
    have HRJ := Lib.hid hr
    rw [hg2] at y6
    obtain ⟨t0, tf⟩ := cells1 (kept_blk HK.out HB1.out)
    have HFT := Lib.hid (rfits_ok (Rd.kept HC1.out HK.out (fun _ _ h => h)) hrow2)
    have HROW := Lib.hid hrow2
    obtain ⟨ft, hft⟩ : ∃ ft, fitsT c r = ft := ⟨_, rfl⟩
    rw [hft] at HFT
    have HF := Lib.hid hft
    clear hr hrow2 hft
    go_upto_region 8 with (go_at_call 173; refine HFT.out.mono ?_; rintro e3 w3 ⟨rfl, hk3⟩; have HK3 := Lib.hid (HK.out.trans hk3 (fun _ h => h.elim)); have HKR := Lib.hid hk3; clear hk3 HFT y6 z2 hg2 t0 tf)
    have HROW3 := Lib.hid (Rd.kept HROW.out HKR.out (fun _ _ h => h))
    clear HROW HKR
    obtain ⟨k0, k1, k2⟩ := boxKey (kept_blk HK3.out HB2.out)
    cases r with
    | nil =>
     have HQ := Lib.hid (show imgOk c x.key [] = true from rfl)
     refine wp_region_canon [(0, false, 999), (1, false, 999), (2, false, 999), (3, false, 999), (4, false, 999), (5, false, 999), (6, false, 999), (7, false, 999), (8, false, 999), (9, false, 999), (10, false, 999), (11, false, 999), (12, false, 999), (13, false, 999), (14, false, 999)] (by kernel_rfl) (by kernel_rfl) ?_
     iterate 4 (refine wpCan_read rfl rfl (fun K hK => ?_); go_simp; refine hK _ ?_; clear hK K)
     iterate 10 (first | (refine wpCan_no rfl rfl ?_; simp only [Act.put, List.setIfInBounds_toArray, List.set_cons_succ, List.set_cons_zero, List.getElem_toArray, List.getElem_cons_succ, List.getElem_cons_zero]) | (refine wpCan_yes rfl rfl (fun K hK => ?_); go_simp; refine hK _ ?_; clear hK K))
     iterate 1 (refine wpCan_read rfl rfl (fun K hK => ?_); go_simp; refine hK _ ?_; clear hK K)
     refine wpCan_nil ?_
     go_wp2_with fail
     go_roundw
     case rel => exact ⟨j + 1, by go_num, by omega, by rw [all_snocR _ HRJ.out, HNO.out, HQ.out]; rfl, HK3.out.drew⟩
     case measure => simp [intOf]; omega
    | cons y r =>
     obtain ⟨rg, rog, rfl⟩ := row_src HROW3.out (k := 0) (x := y) rfl rfl
     obtain ⟨y0, y1, y2⟩ := key_cells (h := 0) (x := y) HROW3.out rfl
     rw [Nat.zero_mul, Nat.add_zero] at y0 y1 y2
     obtain ⟨M, hM⟩ : ∃ M, (y :: r).length = M := ⟨_, rfl⟩
     have hM3 : 0 < M := by rw [← hM]; simp
     have hM4 : (0 : Int) < (M : Int) := by omega
     rw [hM]
     clear hM
     cases ft
     ·have HQ := Lib.hid (show imgOk c x.key (y :: r) = false by unfold imgOk; rw [HF.out]; rfl)
      refine wp_region_canon [(0, false, 999), (1, false, 999), (2, false, 999), (3, false, 999), (4, false, 999), (5, false, 999), (6, false, 999), (7, false, 999), (8, false, 999), (9, false, 999), (10, false, 999), (11, false, 999), (12, false, 999), (13, false, 999), (14, false, 999)] (by kernel_rfl) (by kernel_rfl) ?_
      iterate 4 (refine wpCan_read rfl rfl (fun K hK => ?_); go_simp; refine hK _ ?_; clear hK K)
      iterate 10 (first | (refine wpCan_no rfl rfl ?_; simp only [Act.put, List.setIfInBounds_toArray, List.set_cons_succ, List.set_cons_zero, List.getElem_toArray, List.getElem_cons_succ, List.getElem_cons_zero]) | (refine wpCan_yes rfl rfl (fun K hK => ?_); go_simp; refine hK _ ?_; clear hK K))
      iterate 1 (refine wpCan_read rfl rfl (fun K hK => ?_); go_simp; refine hK _ ?_; clear hK K)
      refine wpCan_nil ?_
      go_wp2_with fail
      go_ret
      exact ⟨by rw [HR.out, all_no_atR _ HRJ.out HQ.out]; rfl, HK1.out.trans HK3.out.drew (fun _ h => h.elim)⟩
     ·have HQ0 := Lib.hid (show imgOk c x.key (y :: r) = valEqB y.t y.n y.s x.key.t x.key.n x.key.s by unfold imgOk; rw [HF.out, valEqB_val]; simp)
      cases hq : valEqB y.t y.n y.s x.key.t x.key.n x.key.s
      ·have HQ := Lib.hid (HQ0.out.trans hq)
       refine wp_region_canon [(0, false, 999), (1, false, 999), (2, false, 999), (3, false, 999), (4, false, 999), (5, false, 999), (6, false, 999), (7, false, 999), (8, false, 999), (9, false, 999), (10, false, 999), (11, false, 999), (12, false, 999), (13, false, 999), (14, false, 999)] (by kernel_rfl) (by kernel_rfl) ?_
       iterate 4 (refine wpCan_read rfl rfl (fun K hK => ?_); go_simp; refine hK _ ?_; clear hK K)
       iterate 10 (first | (refine wpCan_no rfl rfl ?_; simp only [Act.put, List.setIfInBounds_toArray, List.set_cons_succ, List.set_cons_zero, List.getElem_toArray, List.getElem_cons_succ, List.getElem_cons_zero]) | (refine wpCan_yes rfl rfl (fun K hK => ?_); go_simp; refine hK _ ?_; clear hK K))
       iterate 1 (refine wpCan_read rfl rfl (fun K hK => ?_); go_simp; refine hK _ ?_; clear hK K)
       refine wpCan_nil ?_
       go_wp2_with fail
       go_ret
       exact ⟨by rw [HR.out, all_no_atR _ HRJ.out HQ.out]; rfl, HK1.out.trans HK3.out.drew (fun _ h => h.elim)⟩
      ·have HQ := Lib.hid (HQ0.out.trans hq)
       refine wp_region_canon [(0, false, 999), (1, false, 999), (2, false, 999), (3, false, 999), (4, false, 999), (5, false, 999), (6, false, 999), (7, false, 999), (8, false, 999), (9, false, 999), (10, false, 999), (11, false, 999), (12, false, 999), (13, false, 999), (14, false, 999)] (by kernel_rfl) (by kernel_rfl) ?_
       iterate 4 (refine wpCan_read rfl rfl (fun K hK => ?_); go_simp; refine hK _ ?_; clear hK K)
       iterate 10 (first | (refine wpCan_no rfl rfl ?_; simp only [Act.put, List.setIfInBounds_toArray, List.set_cons_succ, List.set_cons_zero, List.getElem_toArray, List.getElem_cons_succ, List.getElem_cons_zero]) | (refine wpCan_yes rfl rfl (fun K hK => ?_); go_simp; refine hK _ ?_; clear hK K))
       iterate 1 (refine wpCan_read rfl rfl (fun K hK => ?_); go_simp; refine hK _ ?_; clear hK K)
       refine wpCan_nil ?_
       go_wp2_with fail
       go_roundw
       case rel => exact ⟨j + 1, by go_num, by omega, by rw [all_snocR _ HRJ.out, HNO.out, HQ.out]; rfl, HK3.out.drew⟩
       case measure => simp [intOf]; omega
   ·have hji : ¬ ((j : Int) < (N : Int)) := by omega
    obtain rfl : j = N := by omega
    have HF := Lib.hid (show x.imgs.all (imgOk c x.key) = true by have := HNO.out; rw [List.take_of_length_le (Nat.le_of_eq HN.out)] at this; exact this)
    go_wp2_with fail
    go_ret
    exact ⟨by rw [HR.out, HF.out]; rfl, HK1.out.trans HK.out (fun _ h => h.elim)⟩
 ·have HR := Lib.hid (show rr = x.imgs.isEmpty by rw [HRR.out, HP.out, if_neg hm])
  have hq : (x.mode != 6) = true := by simpa using hm
  clear HP HRR hm
  go_enter Tryz.func152, Tryz.ntmps152
  go_upto_region 1 with fail
  rw [← HW1.out]
  clear HW1
  generalize w.heap.size + 1 = b2 at *
  generalize w.heap.size = b1 at *
  obtain ⟨y2, y6⟩ := boxClm2 HB2.out
  rw [HSL.out] at y6
  by_cases h0 : N = 0
  ·have hE := Lib.hid (show x.imgs.isEmpty = true by rw [List.isEmpty_iff]; exact List.length_eq_zero_iff.1 (by rw [HN.out]; exact h0))
   have h1 : ((N : Int) == 0) = true := by simp [h0]
   go_wp2_with fail
   go_ret
   exact ⟨by rw [HR.out, hE.out]; rfl, HK1.out⟩
  ·have hE := Lib.hid (show x.imgs.isEmpty = false by cases hx : x.imgs with | nil => exact absurd (by have := HN.out; rw [hx] at this; exact this.symm) h0 | cons _ _ => rfl)
   have h1 : ((N : Int) == 0) = false := by simp [h0]
   go_wp2_with fail
   go_ret
   exact ⟨by rw [HR.out, hE.out]; rfl, HK1.out⟩
end Go.Proofs.YtgljdkjepdknnaaGreatDoor
