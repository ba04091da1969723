/- Joined texts: The document's answer: are two claims about one thing (ratlineref09.Same). (printed by genref9.py) The document's answer: whether two claims are in conflict (ratlineref09.meets, Conflict). (printed by genref9m.py) -/
import Derived.Test.YtgljdkjepdknnaaGreatDoorMR19
import Derived.Test.YtgljdkjepdknnaaGreatDoorMR7
import Derived.Test.YtgljdkjepdknnaaGreatDoorMR21
import Derived.Test.YtgljdkjepdknnaaGreatDoorMR12
import Derived.Test.YtgljdkjepdknnaaGreatDoorMR18
/- The document's answer: are two claims about one thing (ratlineref09.Same). (printed by genref9.py) -/
namespace Go.Proofs.YtgljdkjepdknnaaGreatDoor
open Go.ChangeShapes Go.WideShapes Go.ChangeAt Go.RowKit
set_option maxRecDepth 100000
set_option linter.unusedSimpArgs false

set_option maxHeartbeats 8000000 in
theorem rcSame_ok {w : World} {x y : ClmE} (hx : RdCl w x) (hy : RdCl w y) : Calls Tryz.prog 26 #[.agg x.cells.toArray, .agg y.cells.toArray] w fun r w' => r = .returned (.bool (RC.same x.c y.c)) ∧ Kept (fun _ => False) w w' := by
 obtain ⟨W1, hW1, hk1, hb1, hb2⟩ := alloc2p w x.cells.toArray y.cells.toArray tCl tCl
 have HW1 := Lib.hid hW1
 have HK1 := Lib.hid hk1
 have HB1 := Lib.hid hb1
 have HB2 := Lib.hid hb2
 have HX := Lib.hid (hx.2.kept hk1)
 have HY := Lib.hid (hy.2.kept hk1)
 have HP := Lib.hid (show RC.same x.c y.c = (decide (x.kind = y.kind) && decide (x.table = y.table) && (if x.kind = 1 then true else if x.kind = 2 then decide (x.key = y.key) else if x.kind = 3 then predEq x.pr.p y.pr.p else false)) from rfl)
 clear hW1 hk1 hb1 hb2 hx hy
 by_cases hk : x.kind = y.kind
 ·have k0 : (x.kind != y.kind) = false := by simpa using hk
  by_cases ht : x.table = y.table
  ·have t0 : (x.table != y.table) = false := by simpa using ht
   by_cases h1 : x.kind = 1
   ·have a1 : (x.kind == 1) = true := by simpa using h1
    have HR := Lib.hid (show RC.same x.c y.c = true by rw [HP.out, ← hk, h1, ht]; simp)
    clear hk ht h1 HP HX HY
    go_enter Tryz.func26, Tryz.ntmps26
    go_upto_region 1 with fail
    rw [← HW1.out]
    clear HW1
    generalize w.heap.size + 1 = b2 at *
    generalize w.heap.size = b1 at *
    obtain ⟨x0, x1, x3, x4, x5⟩ := boxClm HB1.out
    obtain ⟨y0, y1, y3, y4, y5⟩ := boxClm HB2.out
    go_wp2_with fail
    go_ret
    exact ⟨by rw [HR.out]; rfl, HK1.out⟩
   ·have a1 : (x.kind == 1) = false := by simpa using h1
    by_cases h2 : x.kind = 2
    ·have a2 : (x.kind == 2) = true := by simpa using h2
     have HR := Lib.hid (show RC.same x.c y.c = valEqB x.key.t x.key.n x.key.s y.key.t y.key.n y.key.s by rw [HP.out, ← hk, h2, ht, valEqB_val]; simp)
     clear hk ht h1 h2 HP HX HY
     go_enter Tryz.func26, Tryz.ntmps26
     go_upto_region 1 with fail
     rw [← HW1.out]
     clear HW1
     generalize w.heap.size + 1 = b2 at *
     generalize w.heap.size = b1 at *
     obtain ⟨x0, x1, x3, x4, x5⟩ := boxClm HB1.out
     obtain ⟨y0, y1, y3, y4, y5⟩ := boxClm HB2.out
     go_wp2_with fail
     go_ret
     exact ⟨by rw [HR.out]; rfl, HK1.out⟩
    ·have a2 : (x.kind == 2) = false := by simpa using h2
     by_cases h3 : x.kind = 3
     ·have a3 : (x.kind == 3) = true := by simpa using h3
      have HR := Lib.hid (show RC.same x.c y.c = predEq x.pr.p y.pr.p by rw [HP.out, ← hk, h3, ht]; simp)
      have HLX := Lib.hid (loadPr (boxClP HB1.out))
      have HLY := Lib.hid (loadPr (boxClP HB2.out))
      have HPS := Lib.hid (rpSame_ok x.pr.p x.pr y.pr W1 rfl HX.out HY.out)
      clear hk ht h1 h2 h3 HP
      go_enter Tryz.func26, Tryz.ntmps26
      go_upto_region 1 with fail
      rw [← HW1.out]
      clear HW1
      generalize w.heap.size + 1 = b2 at *
      generalize w.heap.size = b1 at *
      obtain ⟨x0, x1, x3, x4, x5⟩ := boxClm HB1.out
      obtain ⟨y0, y1, y3, y4, y5⟩ := boxClm HB2.out
      go_wp2_with (first | (refine wpList_ld rfl _ _ rfl _ _ rfl _ HLX.out ?_) | (refine wpList_ld rfl _ _ rfl _ _ rfl _ HLY.out ?_) | (go_at_call 63; refine HPS.out.mono ?_; rintro r3 w3 ⟨rfl, hk3⟩; have HK3 := Lib.hid (HK1.out.trans hk3 (fun _ h => h.elim)); clear hk3 HPS HLX HLY x0 x1 x3 x4 x5 y0 y1 y3 y4 y5))
      go_ret
      exact ⟨by rw [HR.out]; rfl, HK3.out⟩
     ·have a3 : (x.kind == 3) = false := by simpa using h3
      have HR := Lib.hid (show RC.same x.c y.c = false by rw [HP.out, if_neg h1, if_neg h2, if_neg h3]; simp)
      clear hk ht h1 h2 h3 HP HX HY
      go_enter Tryz.func26, Tryz.ntmps26
      go_upto_region 1 with fail
      rw [← HW1.out]
      clear HW1
      generalize w.heap.size + 1 = b2 at *
      generalize w.heap.size = b1 at *
      obtain ⟨x0, x1, x3, x4, x5⟩ := boxClm HB1.out
      obtain ⟨y0, y1, y3, y4, y5⟩ := boxClm HB2.out
      go_wp2_with fail
      go_ret
      exact ⟨by rw [HR.out]; rfl, HK1.out⟩
  ·have t0 : (x.table != y.table) = true := by simpa using ht
   have HR := Lib.hid (show RC.same x.c y.c = false by rw [HP.out]; simp [ht])
   clear hk ht HP HX HY
   go_enter Tryz.func26, Tryz.ntmps26
   go_upto_region 1 with fail
   rw [← HW1.out]
   clear HW1
   generalize w.heap.size + 1 = b2 at *
   generalize w.heap.size = b1 at *
   obtain ⟨x0, x1, x3, x4, x5⟩ := boxClm HB1.out
   obtain ⟨y0, y1, y3, y4, y5⟩ := boxClm HB2.out
   go_wp2_with fail
   go_ret
   exact ⟨by rw [HR.out]; rfl, HK1.out⟩
 ·have k0 : (x.kind != y.kind) = true := by simpa using hk
  have HR := Lib.hid (show RC.same x.c y.c = false by rw [HP.out]; simp [hk])
  clear hk HP HX HY
  go_enter Tryz.func26, Tryz.ntmps26
  go_upto_region 1 with fail
  rw [← HW1.out]
  clear HW1
  generalize w.heap.size + 1 = b2 at *
  generalize w.heap.size = b1 at *
  obtain ⟨x0, x1, x3, x4, x5⟩ := boxClm HB1.out
  obtain ⟨y0, y1, y3, y4, y5⟩ := boxClm HB2.out
  go_wp2_with fail
  go_ret
  exact ⟨by rw [HR.out]; rfl, HK1.out⟩
end Go.Proofs.YtgljdkjepdknnaaGreatDoor

/- The document's answer: whether two claims are in conflict (ratlineref09.meets, Conflict). (printed by genref9m.py) -/
namespace Go.Proofs.YtgljdkjepdknnaaGreatDoor
open Go.ChangeShapes Go.WideShapes Go.ChangeAt Go.RowKit
set_option maxRecDepth 100000
set_option linter.unusedSimpArgs false

/-- all strings of a claim's predicate and images fit -/
def ClmFit (c : Clm) : Prop := PredFit c.pred ∧ ∀ r ∈ c.imgs, ∀ v ∈ r, v.fits
def meetsR (p : PredT) (r : List Val) : Bool := decide (0 < r.length) && p.holds r
theorem any_snoc {α : Type} (q : α → Bool) {l : List α} {j : Nat} {x : α} (h : l[j]? = some x) : (l.take (j + 1)).any q = ((l.take j).any q || q x) := by
 rw [List.take_add_one, h]; simp
theorem any_of_at {α : Type} (q : α → Bool) {l : List α} {j : Nat} {x : α} (h : l[j]? = some x) (hq : q x = true) : l.any q = true := List.any_eq_true.2 ⟨x, List.mem_of_getElem? h, hq⟩
set_option maxHeartbeats 8000000 in
theorem rmeets_ok {w : World} {x y : ClmE} (hx : RdCl w x) (hy : RdCl w y) (hfx : PredFit x.pr.p) (hfy : ∀ r ∈ y.imgs, ∀ v ∈ r, v.fits) : Calls Tryz.prog 72 #[.agg x.cells.toArray, .agg y.cells.toArray] w fun r w' => r = .returned (.bool (clmMeets x.c y.c)) ∧ Kept (fun _ => False) w w' := by
 obtain ⟨W1, hW1, hk1, hb1, hb2⟩ := alloc2p w x.cells.toArray y.cells.toArray tCl tCl
 have HP := Lib.hid (show clmMeets x.c y.c = (decide (y.mode = 6) && y.imgs.any (meetsR x.pr.p)) from rfl)
 have HW1 := Lib.hid hW1
 have HK1 := Lib.hid hk1
 have HB1 := Lib.hid hb1
 have HB2 := Lib.hid hb2
 have HX := Lib.hid (hx.2.kept hk1)
 have HY := Lib.hid (hy.1.kept hk1)
 have HFX := Lib.hid hfx
 have HFY := Lib.hid hfy
 obtain ⟨ya, yc, hsl, n1, m1, _⟩ := hy.1.shape
 have HSL := Lib.hid hsl
 clear hW1 hk1 hb1 hb2 hx hy hfx hfy hsl
 by_cases hm : y.mode = 6
 ·have HM := Lib.hid hm
  have HR := Lib.hid (show clmMeets x.c y.c = y.imgs.any (meetsR x.pr.p) by rw [HP.out, decide_eq_true hm]; rfl)
  clear HP hm
  obtain ⟨N, hN⟩ : ∃ N, y.imgs.length = N := ⟨_, rfl⟩
  have HN := Lib.hid hN
  rw [HSL.out] at HY
  rw [hN] at HY HSL n1 m1
  clear hN
  go_enter Tryz.func72, Tryz.ntmps72
  go_upto_region 1 with fail
  rw [← HW1.out]
  clear HW1
  generalize w.heap.size + 1 = b2 at *
  generalize w.heap.size = b1 at *
  obtain ⟨y2, y6⟩ := boxClm2 HB2.out
  rw [HM.out] at y2
  rw [HSL.out] at y6
  go_wp2_with fail
  go_loopw [5] (fun i wr => ∃ j : Nat, i = .int .i64 j ∧ j ≤ N ∧ (y.imgs.take j).any (meetsR x.pr.p) = false ∧ Kept (fun _ => False) W1 wr) (fun i _ => N - (intOf i).toNat)
  case atStart => exact ⟨0, rfl, by omega, rfl, Kept.refl _ _⟩
  case round =>
   obtain ⟨j, rfl, hj, hn, hk⟩ := hrel
   have HNO := Lib.hid hn
   have HK := Lib.hid hk
   clear hn hk y2 y6
   have y6 := (boxClm2 (kept_blk HK.out HB2.out)).2
   rw [HSL.out] at y6
   by_cases hlt : j < N
   ·have hji : (j : Int) < (N : Int) := by omega
    obtain ⟨r, hr⟩ : ∃ r, y.imgs[j]? = some r := ⟨y.imgs[j]'(by rw [HN.out]; exact hlt), List.getElem?_eq_getElem _⟩
    obtain ⟨g2, o2, ra2, rc2, hg2, z2, hrow2, hl2, hrc2⟩ := rowAtR (HY.out.kept HK.out) hr
    have HRJ := Lib.hid hr
    rw [hg2] at y6
    have HLP := Lib.hid (loadPr (w := wr.drew) (boxClP (w := wr.drew) (kept_blk HK.out.drew HB1.out)))
    have HC := Lib.hid (rHolds_ok x.pr.p x.pr wr.drew _ r rfl HFX.out (HFY.out r (List.mem_of_getElem? hr)) (HX.out.kept HK.out.drew) (show RowRd wr.drew _ r from hrow2))
    obtain ⟨h, hh⟩ : ∃ h, x.pr.p.holds r = h := ⟨_, rfl⟩
    rw [hh] at HC
    have HH := Lib.hid hh
    have HG := Lib.hid hg2
    have HZ := Lib.hid z2
    clear hr hrow2 hh hg2
    go_upto_region 6 with fail
    refine wp_region_canon [(0, false, 7), (1, false, 7), (2, false, 7), (3, false, 7), (4, false, 7), (5, false, 7), (6, false, 7), (7, true, 0), (8, false, 999)] (by kernel_rfl) (by kernel_rfl) ?_
    iterate 7 (refine wpCan_read rfl rfl (fun K hK => ?_); (first | ((refine still_ld _ _ rfl _ _ rfl _ HLP.out ?_); go_simp) | go_simp); refine hK _ ?_; clear hK K)
    refine wpCan_eff rfl ?_
    refine wpList_do rfl (fun K hK => ?_)
    go_simp
    refine HC.out.mono ?_
    rintro e3 w3 ⟨rfl, hk3⟩
    have HK3 := Lib.hid (HK.out.drew.trans hk3 (fun _ h => h.elim))
    clear hk3 HC HLP y6 z2 HZ HG
    refine hK _ _ ?_
    clear hK K
    refine wpList_nil ?_
    refine And.intro ?_ ?_
    ·go_simp
    iterate 1 (refine wpCan_read rfl rfl (fun K hK => ?_); (first | ((refine still_ld _ _ rfl _ _ rfl _ HLP.out ?_); go_simp) | go_simp); refine hK _ ?_; clear hK K)
    refine wpCan_nil ?_
    obtain ⟨g2, o2, ra2, rc2, hg2, z2, hrow2, hl2, hrc2⟩ := rowAtR (HY.out.kept HK3.out) HRJ.out
    have y6 := (boxClm2 (kept_blk HK3.out HB2.out)).2
    rw [HSL.out, hg2] at y6
    clear hg2 hrow2
    by_cases h0 : 0 < r.length
    ·have h0i : (0 : Int) < (r.length : Int) := by omega
     have HQ := Lib.hid (show meetsR x.pr.p r = h by unfold meetsR; rw [decide_eq_true h0, HH.out]; rfl)
     clear h0
     cases h
     ·generalize r.length = rl at *
      go_wp2_with fail
      go_roundw
      case rel => exact ⟨j + 1, by go_num, by omega, by rw [any_snoc _ HRJ.out, HNO.out, HQ.out]; rfl, HK3.out⟩
      case measure => simp [intOf]; omega
     ·generalize r.length = rl at *
      go_wp2_with fail
      go_ret
      exact ⟨by rw [HR.out, any_of_at _ HRJ.out HQ.out]; rfl, HK1.out.trans HK3.out (fun _ h => h.elim)⟩
    ·have h0i : ¬ ((0 : Int) < (r.length : Int)) := by omega
     have HQ := Lib.hid (show meetsR x.pr.p r = false by unfold meetsR; rw [decide_eq_false h0]; rfl)
     clear h0
     generalize r.length = rl at *
     go_wp2_with fail
     go_roundw
     case rel => exact ⟨j + 1, by go_num, by omega, by rw [any_snoc _ HRJ.out, HNO.out, HQ.out]; rfl, HK3.out⟩
     case measure => simp [intOf]; omega
   ·have hji : ¬ ((j : Int) < (N : Int)) := by omega
    obtain rfl : j = N := by omega
    have HF := Lib.hid (show y.imgs.any (meetsR x.pr.p) = false by have := HNO.out; rw [List.take_of_length_le (Nat.le_of_eq HN.out)] at this; exact this)
    go_wp2_with fail
    go_ret
    exact ⟨by rw [HR.out, HF.out]; rfl, HK1.out.trans HK.out (fun _ h => h.elim)⟩
 ·have HR := Lib.hid (show clmMeets x.c y.c = false by rw [HP.out, decide_eq_false hm]; rfl)
  have hq : (y.mode != 6) = true := by simpa using hm
  clear HP hm
  go_enter Tryz.func72, Tryz.ntmps72
  go_upto_region 1 with fail
  rw [← HW1.out]
  clear HW1
  generalize w.heap.size + 1 = b2 at *
  generalize w.heap.size = b1 at *
  obtain ⟨y2, y6⟩ := boxClm2 HB2.out
  go_wp2_with fail
  go_ret
  exact ⟨by rw [HR.out]; rfl, HK1.out⟩
set_option maxHeartbeats 8000000 in
theorem rConf_ok {w : World} {x y : ClmE} (hx : RdCl w x) (hy : RdCl w y) (hfx : ClmFit x.c) (hfy : ClmFit y.c) : Calls Tryz.prog 36 #[.agg x.cells.toArray, .agg y.cells.toArray] w fun r w' => r = .returned (.bool (RC.conf x.c y.c)) ∧ Kept (fun _ => False) w w' := by
 obtain ⟨W1, hW1, hk1, hb1, hb2⟩ := alloc2p w x.cells.toArray y.cells.toArray tCl tCl
 have HP := Lib.hid (show RC.conf x.c y.c = (decide (x.table = y.table) && (if x.kind = 1 ∧ y.kind = 1 then !fitsM x.mode y.mode else if x.kind = 2 ∧ y.kind = 2 then decide (x.key = y.key) && !fitsM x.mode y.mode else if x.kind = 3 ∧ y.kind = 2 then clmMeets x.c y.c else if x.kind = 2 ∧ y.kind = 3 then clmMeets y.c x.c else false)) from rfl)
 have HW1 := Lib.hid hW1
 have HK1 := Lib.hid hk1
 have HB1 := Lib.hid hb1
 have HB2 := Lib.hid hb2
 have HM := Lib.hid (show ∀ W, Kept (fun _ => False) W1 W → Calls Tryz.prog 72 #[.agg x.cells.toArray, .agg y.cells.toArray] W fun r w' => r = .returned (.bool (clmMeets x.c y.c)) ∧ Kept (fun _ => False) W w' from fun W hW => rmeets_ok ((hx.kept hk1).kept hW) ((hy.kept hk1).kept hW) hfx.1 hfy.2)
 have HN := Lib.hid (show ∀ W, Kept (fun _ => False) W1 W → Calls Tryz.prog 72 #[.agg y.cells.toArray, .agg x.cells.toArray] W fun r w' => r = .returned (.bool (clmMeets y.c x.c)) ∧ Kept (fun _ => False) W w' from fun W hW => rmeets_ok ((hy.kept hk1).kept hW) ((hx.kept hk1).kept hW) hfy.1 hfx.2)
 clear hW1 hk1 hb1 hb2 hx hy hfx hfy
 by_cases ht : x.table = y.table
 ·have t0 : (x.table != y.table) = false := by simpa using ht
  have HFT := Lib.hid (show ∀ W, Calls Tryz.prog 71 #[.int .i64 x.mode, .int .i64 y.mode] W fun e w' => e = .returned (.bool (fitsM x.mode y.mode)) ∧ Kept (fun _ => False) W w' from fun W => rFits_ok x.mode y.mode W)
  obtain ⟨ff, hff⟩ : ∃ f, fitsM x.mode y.mode = f := ⟨_, rfl⟩
  rw [hff] at HFT HP
  clear hff
  have HP1 := Lib.hid (show RC.conf x.c y.c = (if x.kind = 1 ∧ y.kind = 1 then !ff else if x.kind = 2 ∧ y.kind = 2 then decide (x.key = y.key) && !ff else if x.kind = 3 ∧ y.kind = 2 then clmMeets x.c y.c else if x.kind = 2 ∧ y.kind = 3 then clmMeets y.c x.c else false) by rw [HP.out, decide_eq_true ht]; rfl)
  clear HP ht
  go_enter Tryz.func36, Tryz.ntmps36
  go_upto_region 1 with fail
  rw [← HW1.out]
  clear HW1
  generalize w.heap.size + 1 = b2 at *
  generalize w.heap.size = b1 at *
  obtain ⟨x0, x1, x3, x4, x5⟩ := boxClm HB1.out
  obtain ⟨y0, y1, y3, y4, y5⟩ := boxClm HB2.out
  obtain ⟨x2, x6⟩ := boxClm2 HB1.out
  obtain ⟨y2, y6⟩ := boxClm2 HB2.out
  have HF := Lib.hid (HFT.out W1)
  go_upto_region 4 with (go_at_call 71; refine HF.out.mono ?_; rintro r2 w2 ⟨rfl, hk2⟩; have HK2 := Lib.hid hk2; clear hk2 HF x0 x1 x2 x3 x4 x5 x6 y0 y1 y2 y3 y4 y5 y6)
  obtain ⟨x0, x1, x3, x4, x5⟩ := boxClm (kept_blk HK2.out HB1.out)
  obtain ⟨y0, y1, y3, y4, y5⟩ := boxClm (kept_blk HK2.out HB2.out)
  have HLX := Lib.hid (loadCl (blk_range (kept_blk HK2.out HB1.out)))
  have HLY := Lib.hid (loadCl (blk_range (kept_blk HK2.out HB2.out)))
  have HMX := Lib.hid (HM.out w2 HK2.out)
  have HNX := Lib.hid (HN.out w2 HK2.out)
  have HKE := Lib.hid (HK1.out.trans HK2.out (fun _ h => h.elim))
  clear HK1 HK2 HB1 HB2 HM HN HFT
  by_cases h11 : x.kind = 1 ∧ y.kind = 1
  ·obtain ⟨h1, h2⟩ := h11
   have HR := Lib.hid (show RC.conf x.c y.c = !ff by rw [HP1.out, h1, h2]; rfl)
   rw [h1] at x0
   rw [h2] at y0
   clear h1 h2 HP1
   cases ff
   all_goals
    go_wp2_with fail
    go_ret
    exact ⟨by rw [HR.out]; rfl, HKE.out⟩
  by_cases h22 : x.kind = 2 ∧ y.kind = 2
  ·obtain ⟨h1, h2⟩ := h22
   rw [h1] at x0
   rw [h2] at y0
   have HR0 := Lib.hid (show RC.conf x.c y.c = (decide (x.key = y.key) && !ff) by rw [HP1.out, h1, h2]; rfl)
   clear h1 h2 HP1
   cases hk : decide (x.key = y.key)
   ·have HR := Lib.hid (show RC.conf x.c y.c = false by rw [HR0.out, hk]; rfl)
    have q : valEqB x.key.t x.key.n x.key.s y.key.t y.key.n y.key.s = false := by rw [valEqB_val]; exact hk
    clear hk HR0
    go_wp2_with fail
    go_ret
    exact ⟨by rw [HR.out]; rfl, HKE.out⟩
   ·have HR := Lib.hid (show RC.conf x.c y.c = !ff by rw [HR0.out, hk]; rfl)
    have q : valEqB x.key.t x.key.n x.key.s y.key.t y.key.n y.key.s = true := by rw [valEqB_val]; exact hk
    clear hk HR0
    cases ff
    all_goals
     go_wp2_with fail
     go_ret
     exact ⟨by rw [HR.out]; rfl, HKE.out⟩
  by_cases h32 : x.kind = 3 ∧ y.kind = 2
  ·obtain ⟨h1, h2⟩ := h32
   have HR := Lib.hid (show RC.conf x.c y.c = clmMeets x.c y.c by rw [HP1.out, h1, h2]; rfl)
   rw [h1] at x0
   rw [h2] at y0
   clear h1 h2 HP1
   ·go_wp2_with (first | (refine wpList_ld rfl _ _ rfl _ _ rfl _ HLX.out ?_) | (refine wpList_ld rfl _ _ rfl _ _ rfl _ HLY.out ?_) | (go_at_call 72; refine HMX.out.mono ?_; rintro r3 w3 ⟨rfl, hk3⟩; have HK3 := Lib.hid (HKE.out.trans hk3 (fun _ h => h.elim)); clear hk3 HMX HNX HLX HLY x0 x1 x3 x4 x5 y0 y1 y3 y4 y5))
    go_ret
    exact ⟨by rw [HR.out]; rfl, HK3.out⟩
  by_cases h23 : x.kind = 2 ∧ y.kind = 3
  ·obtain ⟨h1, h2⟩ := h23
   have HR := Lib.hid (show RC.conf x.c y.c = clmMeets y.c x.c by rw [HP1.out, h1, h2]; rfl)
   rw [h1] at x0
   rw [h2] at y0
   clear h1 h2 HP1
   ·go_wp2_with (first | (refine wpList_ld rfl _ _ rfl _ _ rfl _ HLX.out ?_) | (refine wpList_ld rfl _ _ rfl _ _ rfl _ HLY.out ?_) | (go_at_call 72; refine HNX.out.mono ?_; rintro r3 w3 ⟨rfl, hk3⟩; have HK3 := Lib.hid (HKE.out.trans hk3 (fun _ h => h.elim)); clear hk3 HMX HNX HLX HLY x0 x1 x3 x4 x5 y0 y1 y3 y4 y5))
    go_ret
    exact ⟨by rw [HR.out]; rfl, HK3.out⟩
  have HR := Lib.hid (show RC.conf x.c y.c = false by rw [HP1.out, if_neg h11, if_neg h22, if_neg h32, if_neg h23])
  by_cases a1 : x.kind = 1
  ·have e1 : (y.kind == 1) = false := by simp; omega
   rw [a1] at x0
   clear h11 h22 h32 h23 HP1 a1
   go_wp2_with fail
   go_ret
   exact ⟨by rw [HR.out]; rfl, HKE.out⟩
  by_cases a2 : x.kind = 2
  ·have e1 : (y.kind == 2) = false := by simp; omega
   have e2 : (y.kind == 3) = false := by simp; omega
   rw [a2] at x0
   clear h11 h22 h32 h23 HP1 a1 a2
   go_wp2_with fail
   go_ret
   exact ⟨by rw [HR.out]; rfl, HKE.out⟩
  by_cases a3 : x.kind = 3
  ·have e1 : (y.kind == 2) = false := by simp; omega
   rw [a3] at x0
   clear h11 h22 h32 h23 HP1 a1 a2 a3
   go_wp2_with fail
   go_ret
   exact ⟨by rw [HR.out]; rfl, HKE.out⟩
  have e1 : (x.kind == 1) = false := by simpa using a1
  have e2 : (x.kind == 2) = false := by simpa using a2
  have e3 : (x.kind == 3) = false := by simpa using a3
  clear h11 h22 h32 h23 HP1 a1 a2 a3
  go_wp2_with fail
  go_ret
  exact ⟨by rw [HR.out]; rfl, HKE.out⟩
 ·have t0 : (x.table != y.table) = true := by simpa using ht
  have HR := Lib.hid (show RC.conf x.c y.c = false by rw [HP.out, decide_eq_false ht]; rfl)
  clear HP ht
  go_enter Tryz.func36, Tryz.ntmps36
  go_upto_region 1 with fail
  rw [← HW1.out]
  clear HW1
  generalize w.heap.size + 1 = b2 at *
  generalize w.heap.size = b1 at *
  obtain ⟨x0, x1, x3, x4, x5⟩ := boxClm HB1.out
  obtain ⟨y0, y1, y3, y4, y5⟩ := boxClm HB2.out
  go_wp2_with fail
  go_ret
  exact ⟨by rw [HR.out]; rfl, HK1.out⟩
end Go.Proofs.YtgljdkjepdknnaaGreatDoor
