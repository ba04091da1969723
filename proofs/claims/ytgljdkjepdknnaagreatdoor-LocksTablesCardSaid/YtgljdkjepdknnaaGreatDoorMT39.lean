/- The document's images (ratlineref09.images). -/
import Derived.Test.YtgljdkjepdknnaaGreatDoorMT38
import Derived.Test.YtgljdkjepdknnaaGreatDoorMT25
import Derived.Test.YtgljdkjepdknnaaGreatDoorMT18
set_option maxHeartbeats 64000000
namespace Go.Proofs.YtgljdkjepdknnaaGreatDoor
open Go.ChangeShapes Go.WideShapes Go.ChangeAt Go.RowKit
set_option maxRecDepth 100000
set_option linter.unusedSimpArgs false
def gH (c : List Bool) (x : Clm) : Bool := if x.mode = 6 then x.imgs.all (dM c x.key) else x.imgs.isEmpty
theorem lp {α : Type} (q : α → Bool) {l : List α} {j : Nat} {x : α} (h : l[j]? = some x) : (l.take (j + 1)).all q = ((l.take j).all q && q x) := by
 rw [List.take_add_one, h]; simp
theorem jX {α : Type} (q : α → Bool) {l : List α} {j : Nat} {x : α} (h : l[j]? = some x) (hq : q x = false) : l.all q = false := List.all_eq_false.2 ⟨x, List.mem_of_getElem? h, by rw [hq]; simp⟩
theorem oy {w : World} {cv : Value} {c : List Bool} {x : ClmE} (hc : da w cv c) (hx : RdCl w x) : Calls Tryz.prog 152 #[.agg #[cv], .agg x.cells.toArray] w fun r w' => r = .returned (.bool (gH c x.c)) ∧ Kept (fun _ => False) w w' := by
 obtain ⟨W1, hW1, hk1, hb1, hb2⟩ := gX w #[cv] x.cells.toArray dz tCl
 have tW := BO (Rd.kept hc hk1 (fun _ _ h => h))
 have HP := BO (show gH c x.c = if x.mode = 6 then x.imgs.all (dM c x.key) else x.imgs.isEmpty from rfl)
 have sR := BO hW1
 have sW := BO hk1
 have sZ := BO hb1
 have s7 := BO hb2
 have HY := BO (hx.1.kept hk1)
 obtain ⟨ya, yc, hsl, n1, m1, _⟩ := hx.1.shape
 have wm := BO hsl
 obtain ⟨_, _, ca, cc, rfl, _⟩ := hc
 obtain ⟨rr, hrr⟩ : ∃ rr, rr = gH c x.c := ⟨_, rfl⟩
 rw [← hrr]
 have tl := BO hrr
 obtain ⟨N, hN⟩ : ∃ N, x.imgs.length = N := ⟨_, rfl⟩
 have HN := BO hN
 rw [hN] at wm n1 m1
 rw [hsl, hN] at HY
 clear hW1 hk1 hb1 hb2 hx hsl hrr hN
 by_cases hm : x.mode = 6
 ·have HM := BO hm
  have HR := BO (show rr = x.imgs.all (dM c x.key) by rw [tl.out, HP.out, if_pos hm])
  clear HP tl hm
  go_enter Tryz.func152, Tryz.ntmps152
  go_upto_region 1 with fail
  rw [← sR.out]
  clear sR
  generalize w.heap.size + 1 = b2 at *
  generalize w.heap.size = b1 at *
  obtain ⟨y2, y6⟩ := aW s7.out
  rw [HM.out] at y2
  rw [wm.out] at y6
  go_wp2_with fail
  go_loopw [5] (fun i wr => ∃ j : Nat, i = .int .i64 j ∧ j ≤ N ∧ (x.imgs.take j).all (dM c x.key) = true ∧ Kept (fun _ => False) W1 wr) (fun i _ => N - (intOf i).toNat)
  case atStart => exact ⟨0, rfl, by omega, rfl, Kept.refl _ _⟩
  case round =>
   obtain ⟨j, rfl, hj, hn, hk⟩ := hrel
   have tK := BO hn
   have HK := BO hk
   clear hn hk y2 y6
   have y6 := (aW (aA HK.out s7.out)).2
   rw [wm.out] at y6
   by_cases hlt : j < N
   ·have hji : (j : Int) < (N : Int) := by omega
    obtain ⟨r, hr⟩ : ∃ r, x.imgs[j]? = some r := ⟨x.imgs[j]'(by rw [HN.out]; exact hlt), List.getElem?_eq_getElem _⟩
    obtain ⟨g2, o2, ra2, rc2, hg2, z2, hrow2, hl2, hrc2⟩ := eB (HY.out.kept HK.out) hr
    have vY := BO hr
    rw [hg2] at y6
    obtain ⟨t0, tf⟩ := aM (aA HK.out sZ.out)
    have vm := BO (sz (Rd.kept tW.out HK.out (fun _ _ h => h)) hrow2)
    have vz := BO hrow2
    obtain ⟨ft, hft⟩ : ∃ ft, ex c r = ft := ⟨_, rfl⟩
    rw [hft] at vm
    have HF := BO hft
    clear hr hrow2 hft
    go_upto_region 8 with (go_at_call 173; refine vm.out.mono ?_; rintro e3 w3 ⟨rfl, hk3⟩; have tn := BO (HK.out.trans hk3 (fun _ h => h.elim)); have zC := BO hk3; clear hk3 vm y6 z2 hg2 t0 tf)
    have ym := BO (Rd.kept vz.out zC.out (fun _ _ h => h))
    clear vz zC
    obtain ⟨k0, k1, k2⟩ := fM (aA tn.out s7.out)
    cases r with
    | nil =>
     have HQ := BO (show dM c x.key [] = true from rfl)
     refine af [(0, false, 999), (1, false, 999), (2, false, 999), (3, false, 999), (4, false, 999), (5, false, 999), (6, false, 999), (7, false, 999), (8, false, 999), (9, false, 999), (10, false, 999), (11, false, 999), (12, false, 999), (13, false, 999), (14, false, 999)] (by kernel_rfl) (by kernel_rfl) ?_
     iterate 4 (refine ae rfl rfl (fun K hK => ?_); go_simp; refine hK _ ?_; clear hK K)
     iterate 10 (first | (refine am rfl rfl ?_; simp only [Act.put, BP, BQ, BR, BS, BT, BU]) | (refine ak rfl rfl (fun K hK => ?_); go_simp; refine hK _ ?_; clear hK K))
     refine ae rfl rfl (fun K hK => ?_); go_simp; refine hK _ ?_; clear hK K
     refine ap ?_
     go_wp2_with fail
     go_roundw
     case rel => exact ⟨j + 1, by go_num, by omega, by rw [lp _ vY.out, tK.out, HQ.out]; rfl, tn.out.drew⟩
     case measure => simp [intOf]; omega
    | cons y r =>
     obtain ⟨rg, rog, rfl⟩ := jz ym.out (k := 0) (x := y) rfl rfl
     obtain ⟨y0, y1, y2⟩ := fE (h := 0) (x := y) ym.out rfl
     rw [Nat.zero_mul, Nat.add_zero] at y0 y1 y2
     obtain ⟨M, hM⟩ : ∃ M, (y :: r).length = M := ⟨_, rfl⟩
     have hM3 : 0 < M := by rw [← hM]; simp
     have hM4 : (0 : Int) < (M : Int) := by omega
     rw [hM]
     clear hM
     cases ft
     ·have HQ := BO (show dM c x.key (y :: r) = false by unfold dM; rw [HF.out]; rfl)
      refine af [(0, false, 999), (1, false, 999), (2, false, 999), (3, false, 999), (4, false, 999), (5, false, 999), (6, false, 999), (7, false, 999), (8, false, 999), (9, false, 999), (10, false, 999), (11, false, 999), (12, false, 999), (13, false, 999), (14, false, 999)] (by kernel_rfl) (by kernel_rfl) ?_
      iterate 4 (refine ae rfl rfl (fun K hK => ?_); go_simp; refine hK _ ?_; clear hK K)
      iterate 10 (first | (refine am rfl rfl ?_; simp only [Act.put, BP, BQ, BR, BS, BT, BU]) | (refine ak rfl rfl (fun K hK => ?_); go_simp; refine hK _ ?_; clear hK K))
      refine ae rfl rfl (fun K hK => ?_); go_simp; refine hK _ ?_; clear hK K
      refine ap ?_
      go_wp2_with fail
      go_ret
      exact ⟨by rw [HR.out, jX _ vY.out HQ.out]; rfl, sW.out.trans tn.out.drew (fun _ h => h.elim)⟩
     ·have A9 := BO (show dM c x.key (y :: r) = b6 y.t y.n y.s x.key.t x.key.n x.key.s by unfold dM; rw [HF.out, bH]; simp)
      cases hq : b6 y.t y.n y.s x.key.t x.key.n x.key.s
      ·have HQ := BO (A9.out.trans hq)
       refine af [(0, false, 999), (1, false, 999), (2, false, 999), (3, false, 999), (4, false, 999), (5, false, 999), (6, false, 999), (7, false, 999), (8, false, 999), (9, false, 999), (10, false, 999), (11, false, 999), (12, false, 999), (13, false, 999), (14, false, 999)] (by kernel_rfl) (by kernel_rfl) ?_
       iterate 4 (refine ae rfl rfl (fun K hK => ?_); go_simp; refine hK _ ?_; clear hK K)
       iterate 10 (first | (refine am rfl rfl ?_; simp only [Act.put, BP, BQ, BR, BS, BT, BU]) | (refine ak rfl rfl (fun K hK => ?_); go_simp; refine hK _ ?_; clear hK K))
       refine ae rfl rfl (fun K hK => ?_); go_simp; refine hK _ ?_; clear hK K
       refine ap ?_
       go_wp2_with fail
       go_ret
       exact ⟨by rw [HR.out, jX _ vY.out HQ.out]; rfl, sW.out.trans tn.out.drew (fun _ h => h.elim)⟩
      ·have HQ := BO (A9.out.trans hq)
       refine af [(0, false, 999), (1, false, 999), (2, false, 999), (3, false, 999), (4, false, 999), (5, false, 999), (6, false, 999), (7, false, 999), (8, false, 999), (9, false, 999), (10, false, 999), (11, false, 999), (12, false, 999), (13, false, 999), (14, false, 999)] (by kernel_rfl) (by kernel_rfl) ?_
       iterate 4 (refine ae rfl rfl (fun K hK => ?_); go_simp; refine hK _ ?_; clear hK K)
       iterate 10 (first | (refine am rfl rfl ?_; simp only [Act.put, BP, BQ, BR, BS, BT, BU]) | (refine ak rfl rfl (fun K hK => ?_); go_simp; refine hK _ ?_; clear hK K))
       refine ae rfl rfl (fun K hK => ?_); go_simp; refine hK _ ?_; clear hK K
       refine ap ?_
       go_wp2_with fail
       go_roundw
       case rel => exact ⟨j + 1, by go_num, by omega, by rw [lp _ vY.out, tK.out, HQ.out]; rfl, tn.out.drew⟩
       case measure => simp [intOf]; omega
   ·have hji : ¬ ((j : Int) < (N : Int)) := by omega
    obtain rfl : j = N := by omega
    have HF := BO (show x.imgs.all (dM c x.key) = true by have := tK.out; rw [List.take_of_length_le (Nat.le_of_eq HN.out)] at this; exact this)
    go_wp2_with fail
    go_ret
    exact ⟨by rw [HR.out, HF.out]; rfl, sW.out.trans HK.out (fun _ h => h.elim)⟩
 ·have HR := BO (show rr = x.imgs.isEmpty by rw [tl.out, HP.out, if_neg hm])
  have hq : (x.mode != 6) = true := by simpa using hm
  clear HP tl hm
  go_enter Tryz.func152, Tryz.ntmps152
  go_upto_region 1 with fail
  rw [← sR.out]
  clear sR
  generalize w.heap.size + 1 = b2 at *
  generalize w.heap.size = b1 at *
  obtain ⟨y2, y6⟩ := aW s7.out
  rw [wm.out] at y6
  by_cases h0 : N = 0
  ·have hE := BO (show x.imgs.isEmpty = true by rw [List.isEmpty_iff]; exact List.length_eq_zero_iff.1 (by rw [HN.out]; exact h0))
   have h1 : ((N : Int) == 0) = true := by simp [h0]
   go_wp2_with fail
   go_ret
   exact ⟨by rw [HR.out, hE.out]; rfl, sW.out⟩
  ·have hE := BO (show x.imgs.isEmpty = false by cases hx : x.imgs with | nil => exact absurd (by have := HN.out; rw [hx] at this; exact this.symm) h0 | cons _ _ => rfl)
   have h1 : ((N : Int) == 0) = false := by simp [h0]
   go_wp2_with fail
   go_ret
   exact ⟨by rw [HR.out, hE.out]; rfl, sW.out⟩
end Go.Proofs.YtgljdkjepdknnaaGreatDoor
