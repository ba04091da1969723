/- Joined texts: The document's answer: Covers of any two numbers, and Join (ratlineref08). The document's answer: whether a row is one of some, whether a claim covers another (ratlineref09.In, Covers). -/
import Derived.Test.YtgljdkjepdknnaaGreatDoorJ19
import Derived.Test.YtgljdkjepdknnaaGreatDoorJ24
/- The document's answer: Covers of any two numbers, and Join (ratlineref08). -/
namespace Go.Proofs.YtgljdkjepdknnaaGreatDoor
open Go.ChangeShapes Go.WideShapes Go.ChangeAt Go.RowKit
set_option maxRecDepth 100000
set_option linter.unusedSimpArgs false

theorem covers_out (a b : Int) (h : a < 0 ∨ 6 < a ∨ b < 0 ∨ 6 < b) (w : World) :
    Calls Tryz.prog 54 #[.int .i64 a, .int .i64 b] w fun e w' => e = .returned (.bool false) ∧ w = w' := by
  by_cases h0 : a < 0
  · go_enter Tryz.func54, Tryz.ntmps54
    go_wp2_with fail
    go_ret
    exact ⟨rfl, rfl⟩
  by_cases h1 : 6 < a
  · have g1 : a > 6 := h1
    go_enter Tryz.func54, Tryz.ntmps54
    go_wp2_with fail
    go_ret
    exact ⟨rfl, rfl⟩
  have g1 : ¬ a > 6 := h1
  by_cases h2 : b < 0
  · go_enter Tryz.func54, Tryz.ntmps54
    go_wp2_with fail
    go_ret
    exact ⟨rfl, rfl⟩
  have h3 : b > 6 := by omega
  go_enter Tryz.func54, Tryz.ntmps54
  go_wp2_with fail
  go_ret
  exact ⟨rfl, rfl⟩
theorem rCovers_ok (a b : Int) (w : World) : Calls Tryz.prog 54 #[.int .i64 a, .int .i64 b] w fun e w' => e = .returned (.bool (coversM a b)) ∧ Kept (fun _ => False) w w' := by
  by_cases h : a < 0 ∨ 6 < a ∨ b < 0 ∨ 6 < b
  · rw [← coversB_M, show coversB a b = false by unfold coversB; rw [if_pos h]]
    exact (covers_out a b h w).mono (fun e w' ⟨h1, h2⟩ => ⟨h1, h2 ▸ Kept.refl _ _⟩)
  · exact rCovers_in a b ⟨by omega, by omega⟩ ⟨by omega, by omega⟩ w
/-- the best of the first modes -/
def bestJ (a b : Int) : Nat → Int
  | 0 => -1
  | k + 1 => if coversM k a && coversM k b && (decide (bestJ a b k < 0) || coversM (bestJ a b k) k) then k else bestJ a b k
theorem bestJ_out {a b : Int} (h : (modeR a && modeR b) = false) : ∀ k, bestJ a b k = -1
  | 0 => rfl
  | k + 1 => by
    unfold bestJ
    rw [bestJ_out h k]
    have : (coversM k a && coversM k b) = false := by
      unfold coversM
      cases ha : modeR a
      · simp
      · rw [ha] at h
        simp at h
        simp [h]
    rw [this]
    simp
theorem bestJ_join (a b : Int) : joinM a b = if bestJ a b 7 < 0 then 0 else bestJ a b 7 := by
  cases h : (modeR a && modeR b)
  · rw [bestJ_out h 7]
    unfold joinM
    rw [h]
    rfl
  · rw [Bool.and_eq_true] at h
    rcases modeR_cases h.1 with rfl | rfl | rfl | rfl | rfl | rfl | rfl <;> rcases modeR_cases h.2 with rfl | rfl | rfl | rfl | rfl | rfl | rfl <;> decide
set_option maxHeartbeats 4000000 in
theorem rJoin_ok (a b : Int) (w : World) : Calls Tryz.prog 172 #[.int .i64 a, .int .i64 b] w fun e w' => e = .returned (.int .i64 (joinM a b)) ∧ Kept (fun _ => False) w w' := by
  rw [bestJ_join]
  have HCV := Lib.hid (show ∀ (x y : Int) (W : World), Calls Tryz.prog 54 #[.int .i64 x, .int .i64 y] W fun e w' => e = .returned (.bool (coversM x y)) ∧ Kept (fun _ => False) W w' from rCovers_ok)
  obtain ⟨res, hres⟩ : ∃ r, (if bestJ a b 7 < 0 then (0 : Int) else bestJ a b 7) = r := ⟨_, rfl⟩
  have HRES := Lib.hid hres
  rw [hres]
  clear hres
  go_enter Tryz.func172, Tryz.ntmps172
  go_wp2_with fail
  go_loopw [5, 6] (fun t i wr => ∃ k : Nat, k ≤ 7 ∧ i = .int .i64 k ∧ t = .int .i64 (bestJ a b k) ∧ Kept (fun _ => False) w wr) (fun _ i _ => 7 - (intOf i).toNat)
  case atStart => exact ⟨0, by omega, rfl, rfl, Kept.refl _ _⟩
  case round =>
    obtain ⟨k, hk, rfl, rfl, hb⟩ := hrel
    have HB := Lib.hid hb
    clear hb
    by_cases hlt : k < 7
    · have hki : (k : Int) ≤ 6 := by omega
      have HST := Lib.hid (show bestJ a b (k + 1) = if coversM k a && coversM k b && (decide (bestJ a b k < 0) || coversM (bestJ a b k) k) then (k : Int) else bestJ a b k from rfl)
      obtain ⟨t, ht⟩ : ∃ t, bestJ a b k = t := ⟨_, rfl⟩
      rw [ht] at HST ⊢
      clear ht
      cases c1 : coversM k a
      · have HN := Lib.hid (show bestJ a b (k + 1) = t by rw [HST.out, c1]; rfl)
        have HC1 := Lib.hid (HCV.out k a wr)
        rw [c1] at HC1
        clear c1 HST
        go_wp2_with (go_at_call 54; refine HC1.out.mono ?_; rintro e1 w1 ⟨rfl, hk1⟩; have HK1 := Lib.hid (HB.out.trans hk1 (fun _ h => h.elim)); clear hk1 HC1)
        go_roundw
        case rel => exact ⟨k + 1, by omega, by go_num, by rw [HN.out], HK1.out⟩
        case measure => simp [intOf]; omega
      cases c2 : coversM k b
      · have HN := Lib.hid (show bestJ a b (k + 1) = t by rw [HST.out, c1, c2]; rfl)
        have HC1 := Lib.hid (HCV.out k a wr)
        rw [c1] at HC1
        have HC2 := Lib.hid (show ∀ W, _ from HCV.out k b)
        rw [c2] at HC2
        clear c1 c2 HST
        go_wp2_with (first | (go_at_call 54; refine HC1.out.mono ?_; rintro e1 w1 ⟨rfl, hk1⟩; have HK1 := Lib.hid (HB.out.trans hk1 (fun _ h => h.elim)); clear hk1 HC1) | (go_at_call 54; refine (HC2.out _).mono ?_; rintro e2 w2 ⟨rfl, hk2⟩; have HK2 := Lib.hid (HK1.out.trans hk2 (fun _ h => h.elim)); clear hk2 HC2))
        go_roundw
        case rel => exact ⟨k + 1, by omega, by go_num, by rw [HN.out], HK2.out⟩
        case measure => simp [intOf]; omega
      by_cases c3 : t < 0
      · have HN := Lib.hid (show bestJ a b (k + 1) = k by rw [HST.out, c1, c2, decide_eq_true c3]; rfl)
        have HC1 := Lib.hid (HCV.out k a wr)
        rw [c1] at HC1
        have HC2 := Lib.hid (show ∀ W, _ from HCV.out k b)
        rw [c2] at HC2
        clear c1 c2 HST
        go_wp2_with (first | (go_at_call 54; refine HC1.out.mono ?_; rintro e1 w1 ⟨rfl, hk1⟩; have HK1 := Lib.hid (HB.out.trans hk1 (fun _ h => h.elim)); clear hk1 HC1) | (go_at_call 54; refine (HC2.out _).mono ?_; rintro e2 w2 ⟨rfl, hk2⟩; have HK2 := Lib.hid (HK1.out.trans hk2 (fun _ h => h.elim)); clear hk2 HC2))
        go_roundw
        case rel => exact ⟨k + 1, by omega, by go_num, by rw [HN.out], HK2.out⟩
        case measure => simp [intOf]; omega
      cases c4 : coversM t k
      all_goals
        have HN := Lib.hid (show bestJ a b (k + 1) = if coversM t k then (k : Int) else t by rw [HST.out, c1, c2, decide_eq_false c3]; rfl)
        rw [c4] at HN
        have HC1 := Lib.hid (HCV.out k a wr)
        rw [c1] at HC1
        have HC2 := Lib.hid (show ∀ W, _ from HCV.out k b)
        rw [c2] at HC2
        have HC3 := Lib.hid (show ∀ W, _ from HCV.out t k)
        rw [c4] at HC3
        clear c1 c2 c4 HST
        go_wp2_with (first | (go_at_call 54; refine HC1.out.mono ?_; rintro e1 w1 ⟨rfl, hk1⟩; have HK1 := Lib.hid (HB.out.trans hk1 (fun _ h => h.elim)); clear hk1 HC1) | (go_at_call 54; refine (HC2.out _).mono ?_; rintro e2 w2 ⟨rfl, hk2⟩; have HK2 := Lib.hid (HK1.out.trans hk2 (fun _ h => h.elim)); clear hk2 HC2) | (go_at_call 54; refine (HC3.out _).mono ?_; rintro e3 w3 ⟨rfl, hk3⟩; have HK3 := Lib.hid (HK2.out.trans hk3 (fun _ h => h.elim)); clear hk3 HC3))
        go_roundw
        case rel => exact ⟨k + 1, by omega, by go_num, by rw [HN.out]; rfl, HK3.out⟩
        case measure => simp [intOf]; omega
    · have hki : ¬ (k : Int) ≤ 6 := by omega
      obtain rfl : k = 7 := by omega
      obtain ⟨t, ht⟩ : ∃ t, bestJ a b 7 = t := ⟨_, rfl⟩
      rw [ht] at HRES ⊢
      clear ht
      by_cases c3 : t < 0
      · have HR := Lib.hid (show (0 : Int) = res by rw [← HRES.out, if_pos c3])
        go_wp2_with fail
        go_ret
        exact ⟨by rw [← HR.out]; rfl, HB.out⟩
      · have HR := Lib.hid (show t = res by rw [← HRES.out, if_neg c3])
        go_wp2_with fail
        go_ret
        exact ⟨by rw [← HR.out]; rfl, HB.out⟩
end Go.Proofs.YtgljdkjepdknnaaGreatDoor

/- The document's answer: whether a row is one of some, whether a claim covers another (ratlineref09.In, Covers). -/
namespace Go.Proofs.YtgljdkjepdknnaaGreatDoor
open Go.ChangeShapes Go.WideShapes Go.ChangeAt Go.RowKit
set_option maxRecDepth 100000
set_option linter.unusedSimpArgs false

set_option maxHeartbeats 4000000 in
theorem rIn_ok {w : World} {v u : Value} {xs : List (List Val)} {y : List Val} (h1 : RowsRd w v xs) (h2 : RowRd w u y) :
    Calls Tryz.prog 55 #[v, u] w fun e w' => e = .returned (.bool (imgIn xs y)) ∧ Kept (fun _ => False) w w' := by
  obtain ⟨a1, c1, rfl, n1, m1, _⟩ := h1.shape
  obtain ⟨ua, un, uc, rfl⟩ : ∃ a n c, u = .slice a n c := by obtain ⟨_, _, a, c, h, _⟩ := id h2; exact ⟨a, _, c, h⟩
  have H1 := Lib.hid h1
  have H2 := Lib.hid h2
  clear h1 h2
  obtain ⟨N, hN⟩ : ∃ N, xs.length = N := ⟨_, rfl⟩
  have HN := Lib.hid hN
  have HI := Lib.hid (show imgIn xs y = xs.any (fun x => decide (x = y)) from rfl)
  rw [hN] at H1 n1 m1 ⊢
  clear hN
  go_enter Tryz.func55, Tryz.ntmps55
  go_wp2_with fail
  go_loopw [5] (fun i wr => ∃ j : Nat, i = .int .i64 j ∧ j ≤ N ∧ (xs.take j).any (fun x => decide (x = y)) = false ∧ Kept (fun _ => False) w wr) (fun i _ => N - (intOf i).toNat)
  case atStart => exact ⟨0, rfl, by omega, rfl, Kept.refl _ _⟩
  case round =>
    obtain ⟨j, rfl, hj, hn, hk⟩ := hrel
    have HNO := Lib.hid hn
    have HK := Lib.hid hk
    clear hn hk
    by_cases hlt : j < N
    · have hji : (j : Int) < (N : Int) := by omega
      obtain ⟨r, hr⟩ : ∃ r, xs[j]? = some r := ⟨xs[j]'(by rw [HN.out]; exact hlt), List.getElem?_eq_getElem _⟩
      obtain ⟨g1, o1, ra1, rc1, hg1, y1, hrow1, hl1, hrc1⟩ := rowAtR (H1.out.kept HK.out) hr
      have HRJ := Lib.hid hr
      subst hg1
      have HC := Lib.hid (rsame_ok hrow1 (H2.out.kept HK.out (fun _ _ h => h)))
      clear hr hrow1
      obtain ⟨b, hb⟩ : ∃ b, decide (r = y) = b := ⟨_, rfl⟩
      rw [hb] at HC
      have HB := Lib.hid hb
      clear hb
      generalize r.length = rl at *
      cases b
      · go_wp2_with (go_at_call 96; refine HC.out.mono ?_; rintro e3 w3 ⟨rfl, n3, rfl⟩; have HK3 := Lib.hid (HK.out.drewN n3); clear HC y1)
        go_roundw
        case rel => exact ⟨j + 1, by go_num, by omega, by rw [any_snoc _ HRJ.out, HNO.out, HB.out]; rfl, HK3.out⟩
        case measure => simp [intOf]; omega
      · go_wp2_with (go_at_call 96; refine HC.out.mono ?_; rintro e3 w3 ⟨rfl, n3, rfl⟩; have HK3 := Lib.hid (HK.out.drewN n3); clear HC y1)
        go_ret
        exact ⟨by rw [HI.out, any_of_at _ HRJ.out HB.out]; rfl, HK3.out⟩
    · have hji : ¬ ((j : Int) < (N : Int)) := by omega
      obtain rfl : j = N := by omega
      have HF := Lib.hid (show imgIn xs y = false by have := HNO.out; rw [List.take_of_length_le (Nat.le_of_eq HN.out)] at this; rw [HI.out]; exact this)
      go_wp2_with fail
      go_ret
      exact ⟨by rw [HF.out]; rfl, HK.out⟩
theorem all_snoc {α : Type} (q : α → Bool) {l : List α} {j : Nat} {x : α} (h : l[j]? = some x) : (l.take (j + 1)).all q = ((l.take j).all q && q x) := by
  rw [List.take_add_one, h]; simp
theorem all_not_at {α : Type} (q : α → Bool) {l : List α} {j : Nat} {x : α} (h : l[j]? = some x) (hq : q x = false) : l.all q = false := by
  rw [Bool.eq_false_iff]; intro ha; rw [List.all_eq_true.1 ha x (List.mem_of_getElem? h)] at hq; cases hq
set_option maxHeartbeats 8000000 in
theorem rCov_ok {w : World} {x y : ClmE} (hx : RdCl w x) (hy : RdCl w y) : Calls Tryz.prog 20 #[.agg x.cells.toArray, .agg y.cells.toArray] w fun r w' => r = .returned (.bool (RC.cov x.c y.c)) ∧ Kept (fun _ => False) w w' := by
  obtain ⟨W1, hW1, hk1, hb1, hb2⟩ := alloc2p w x.cells.toArray y.cells.toArray tCl tCl
  have HP := Lib.hid (show RC.cov x.c y.c = (RC.same x.c y.c && coversM x.mode y.mode && y.imgs.all (fun r => imgIn x.imgs r)) from rfl)
  have HW1 := Lib.hid hW1
  have HK1 := Lib.hid hk1
  have HB1 := Lib.hid hb1
  have HB2 := Lib.hid hb2
  have HLX := Lib.hid (loadCl (blk_range hb1))
  have HLY := Lib.hid (loadCl (blk_range hb2))
  have HS := Lib.hid (rcSame_ok (hx.kept hk1) (hy.kept hk1))
  have HX := Lib.hid (hx.1.kept hk1)
  have HY := Lib.hid (hy.1.kept hk1)
  obtain ⟨ya, yc, hsl, n1, m1, _⟩ := hy.1.shape
  have HSL := Lib.hid hsl
  have HCV := Lib.hid (show ∀ W, Calls Tryz.prog 54 #[.int .i64 x.mode, .int .i64 y.mode] W fun e w' => e = .returned (.bool (coversM x.mode y.mode)) ∧ Kept (fun _ => False) W w' from rCovers_ok x.mode y.mode)
  obtain ⟨s, hs⟩ : ∃ s, RC.same x.c y.c = s := ⟨_, rfl⟩
  obtain ⟨m, hm⟩ : ∃ m, coversM x.mode y.mode = m := ⟨_, rfl⟩
  rw [hs] at HS HP
  rw [hm] at HCV HP
  obtain ⟨N, hN⟩ : ∃ N, y.imgs.length = N := ⟨_, rfl⟩
  have HN := Lib.hid hN
  rw [hsl] at HY
  rw [hN] at HY HSL n1 m1
  clear hN hW1 hk1 hb1 hb2 hx hy hs hm hsl
  go_enter Tryz.func20, Tryz.ntmps20
  go_upto_region 1 with fail
  rw [← HW1.out]
  clear HW1
  generalize w.heap.size + 1 = b2 at *
  generalize w.heap.size = b1 at *
  go_upto_region 2 with (first | (refine wpList_ld rfl _ _ rfl _ _ rfl _ HLX.out ?_) | (refine wpList_ld rfl _ _ rfl _ _ rfl _ HLY.out ?_) | (go_at_call 26; refine HS.out.mono ?_; rintro r2 w2 ⟨rfl, hk2⟩; have HK2 := Lib.hid hk2; clear hk2 HS HLX HLY))
  have HKE := Lib.hid (HK1.out.trans HK2.out (fun _ h => h.elim))
  have x2 := (boxClm2 (kept_blk HK2.out HB1.out)).1
  have y2 := (boxClm2 (kept_blk HK2.out HB2.out)).1
  cases s
  · have HR := Lib.hid (show RC.cov x.c y.c = false by rw [HP.out]; rfl)
    clear HP
    go_wp2_with fail
    go_ret
    exact ⟨by rw [HR.out]; rfl, HKE.out⟩
  cases m
  · have HR := Lib.hid (show RC.cov x.c y.c = false by rw [HP.out]; rfl)
    have HC2 := Lib.hid (HCV.out w2)
    clear HP HCV
    go_wp2_with (go_at_call 54; refine HC2.out.mono ?_; rintro r3 w3 ⟨rfl, hk3⟩; have HK3 := Lib.hid (HKE.out.trans hk3 (fun _ h => h.elim)); clear hk3 HC2 x2 y2)
    go_ret
    exact ⟨by rw [HR.out]; rfl, HK3.out⟩
  have HR := Lib.hid (show RC.cov x.c y.c = y.imgs.all (fun r => imgIn x.imgs r) by rw [HP.out]; rfl)
  have HC2 := Lib.hid (HCV.out w2)
  clear HP HCV
  go_upto_region 4 with (go_at_call 54; refine HC2.out.mono ?_; rintro r3 w3 ⟨rfl, hk3⟩; have HK3 := Lib.hid (HK2.out.trans hk3 (fun _ h => h.elim)); clear hk3 HC2 x2 y2)
  have HB1' := Lib.hid (kept_blk HK3.out HB1.out)
  have HB2' := Lib.hid (kept_blk HK3.out HB2.out)
  have HX' := Lib.hid (HX.out.kept HK3.out)
  have HY' := Lib.hid (HY.out.kept HK3.out)
  have HKF := Lib.hid (HK1.out.trans HK3.out (fun _ h => h.elim))
  clear HK1 HK2 HK3 HKE HB1 HB2 HX HY
  obtain ⟨y2, y6⟩ := boxClm2 HB2'.out
  rw [HSL.out] at y6
  go_wp2_with fail
  go_loopw [6] (fun i wr => ∃ j : Nat, i = .int .i64 j ∧ j ≤ N ∧ (y.imgs.take j).all (fun r => imgIn x.imgs r) = true ∧ Kept (fun _ => False) w3 wr) (fun i _ => N - (intOf i).toNat)
  case atStart => exact ⟨0, rfl, by omega, rfl, Kept.refl _ _⟩
  case round =>
    obtain ⟨j, rfl, hj, hn, hk⟩ := hrel
    have HNO := Lib.hid hn
    have HK := Lib.hid hk
    clear hn hk y2 y6
    have y6 := (boxClm2 (kept_blk HK.out HB2'.out)).2
    have x6 := (boxClm2 (kept_blk HK.out HB1'.out)).2
    rw [HSL.out] at y6
    by_cases hlt : j < N
    · have hji : (j : Int) < (N : Int) := by omega
      obtain ⟨r, hr⟩ : ∃ r, y.imgs[j]? = some r := ⟨y.imgs[j]'(by rw [HN.out]; exact hlt), List.getElem?_eq_getElem _⟩
      obtain ⟨g2, o2, ra2, rc2, hg2, z2, hrow2, hl2, hrc2⟩ := rowAtR (HY'.out.kept HK.out) hr
      have HRJ := Lib.hid hr
      rw [hg2] at y6
      have HC := Lib.hid (rIn_ok (w := wr.drew) (HX'.out.kept HK.out.drew) (show RowRd wr.drew _ r from hrow2))
      obtain ⟨h, hh⟩ : ∃ h, imgIn x.imgs r = h := ⟨_, rfl⟩
      rw [hh] at HC
      have HH := Lib.hid hh
      clear hr hrow2 hh hg2
      generalize r.length = rl at *
      go_upto_region 7 with fail
      refine wp_region_canon [(0, false, 7), (1, false, 7), (2, false, 7), (3, false, 7), (4, false, 7), (5, false, 7), (6, false, 7), (7, true, 0), (8, false, 999)] (by kernel_rfl) (by kernel_rfl) ?_
      iterate 7 (refine wpCan_read rfl rfl (fun K hK => ?_); go_simp; refine hK _ ?_; clear hK K)
      refine wpCan_eff rfl ?_
      refine wpList_do rfl (fun K hK => ?_)
      go_simp
      refine HC.out.mono ?_
      rintro e4 w4 ⟨rfl, hk4⟩
      have HK4 := Lib.hid (HK.out.drew.trans hk4 (fun _ h => h.elim))
      clear hk4 HC y6 x6 z2
      refine hK _ _ ?_
      clear hK K
      refine wpList_nil ?_
      refine And.intro ?_ ?_
      · go_simp
      iterate 1 (refine wpCan_read rfl rfl (fun K hK => ?_); go_simp; refine hK _ ?_; clear hK K)
      refine wpCan_nil ?_
      cases h
      · go_wp2_with fail
        go_ret
        exact ⟨by rw [HR.out, all_not_at _ HRJ.out HH.out]; rfl, HKF.out.trans HK4.out (fun _ h => h.elim)⟩
      · go_wp2_with fail
        go_roundw
        case rel => exact ⟨j + 1, by go_num, by omega, by rw [all_snoc _ HRJ.out, HNO.out, HH.out]; rfl, HK4.out⟩
        case measure => simp [intOf]; omega
    · have hji : ¬ ((j : Int) < (N : Int)) := by omega
      obtain rfl : j = N := by omega
      have HF := Lib.hid (show y.imgs.all (fun r => imgIn x.imgs r) = true by have := HNO.out; rw [List.take_of_length_le (Nat.le_of_eq HN.out)] at this; exact this)
      go_wp2_with fail
      go_ret
      exact ⟨by rw [HR.out, HF.out]; rfl, HKF.out.trans HK.out (fun _ h => h.elim)⟩
end Go.Proofs.YtgljdkjepdknnaaGreatDoor
