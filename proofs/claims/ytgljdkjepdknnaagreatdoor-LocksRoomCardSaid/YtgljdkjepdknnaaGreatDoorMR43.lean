/- Joined texts: The document's Right, May of a table, Fits (ratlineref01, ratlineref02). (printed by genlk.py) The document's Size, part, May of predicates (ratlineref03). (printed by genrm2.py) -/
import Derived.Test.YtgljdkjepdknnaaGreatDoorMR27
import Derived.Test.YtgljdkjepdknnaaGreatDoorMR29
/- The document's Right, May of a table, Fits (ratlineref01, ratlineref02). (printed by genlk.py) -/
namespace Go.Proofs.YtgljdkjepdknnaaGreatDoor
open Go.ChangeShapes Go.WideShapes Go.ChangeAt Go.RowKit
set_option maxRecDepth 100000
set_option linter.unusedSimpArgs false

theorem text_none (n : Int) (s : ByteArray) : valRight ⟨false, n, s⟩ = s.toList.isEmpty := by
 unfold valRight
 simp only [Bool.false_eq_true, if_false]
 by_cases h : s = ⟨#[]⟩
 ·subst h
  rw [ByteArray.toList_eq]
  rfl
 ·rw [decide_eq_false h, ByteArray.toList_eq]
  cases he : s.data.toList.isEmpty with
  | false => rfl
  | true =>
   exfalso
   apply h
   obtain ⟨⟨x⟩⟩ := s
   cases x with
   | nil => rfl
   | cons a b => simp at he

set_option maxHeartbeats 1000000 in
theorem rright_ok (v : Val) (w : World) : Calls Tryz.prog 151 #[v.v] w fun e w' => e = .returned (.bool (valRight v)) ∧ Kept (fun _ => False) w w' := by
 obtain ⟨t, n, s⟩ := v
 have hk : Kept (fun _ => False) w (w.alloc (.cells #[.bool t, .int .i64 n, .string s] 31)) := (Kept.refl _ _).alloc _
 have HK := Lib.hid hk
 clear hk
 cases t
 ·have E := Lib.hid (text_none n s)
  go_enter Tryz.func151, Tryz.ntmps151
  go_wp2_with fail
  go_ret
  exact ⟨by rw [E.out]; rfl, HK.out⟩
 ·by_cases h : n = 0
  ·subst h
   by_cases hs : (s.size : Int) ≤ 12
   ·have E := Lib.hid (show valRight ⟨true, 0, s⟩ = true by simp [valRight]; omega)
    go_enter Tryz.func151, Tryz.ntmps151
    go_wp2_with fail
    go_ret
    exact ⟨by rw [E.out]; rfl, HK.out⟩
   ·have E := Lib.hid (show valRight ⟨true, 0, s⟩ = false by simp [valRight]; omega)
    go_enter Tryz.func151, Tryz.ntmps151
    go_wp2_with fail
    go_ret
    exact ⟨by rw [E.out]; rfl, HK.out⟩
  ·have hb : (n == 0) = false := by simpa using h
   have E := Lib.hid (show valRight ⟨true, n, s⟩ = false by simp [valRight, h])
   go_enter Tryz.func151, Tryz.ntmps151
   go_wp2_with fail
   go_ret
   exact ⟨by rw [E.out]; rfl, HK.out⟩
def mayB (c : List Bool) : Bool := mayT c
theorem rmay_ok {w : World} {cv : Value} {c : List Bool} (h : ColRd w cv c) : Calls Tryz.prog 150 #[.agg #[cv]] w fun e w' => e = .returned (.bool (mayB c)) ∧ Kept (fun _ => False) w w' := by
 obtain ⟨-, m1, ao, cap, rfl, -⟩ := h
 have HK := Lib.hid (show Kept (fun _ => False) w (w.alloc (.cells #[.slice ao c.length cap] tTab)) from (Kept.refl _ _).alloc _)
 by_cases h1 : 1 ≤ c.length
 ·by_cases h2 : c.length ≤ 4
  ·have HM := Lib.hid (show mayB c = true by simp [mayB, mayT, h1, h2])
   have e1 : ((c.length : Int) ≥ 1) := by omega
   have e2 : ((c.length : Int) ≤ 4) := by omega
   go_enter Tryz.func150, Tryz.ntmps150
   go_wp2_with fail
   go_ret
   rw [HM.out]
   exact ⟨rfl, HK.out⟩
  ·have HM := Lib.hid (show mayB c = false by simp [mayB, mayT, h2])
   have e1 : ((c.length : Int) ≥ 1) := by omega
   have e2 : ¬ ((c.length : Int) ≤ 4) := by omega
   go_enter Tryz.func150, Tryz.ntmps150
   go_wp2_with fail
   go_ret
   rw [HM.out]
   exact ⟨rfl, HK.out⟩
 ·have HM := Lib.hid (show mayB c = false by simp [mayB, mayT, h1])
  have e1 : ¬ ((c.length : Int) ≥ 1) := by omega
  go_enter Tryz.func150, Tryz.ntmps150
  go_wp2_with fail
  go_ret
  rw [HM.out]
  exact ⟨rfl, HK.out⟩

set_option maxHeartbeats 4000000 in
theorem rfits_ok {w : World} {cv rv : Value} {c : List Bool} {r : List Val} (hc : ColRd w cv c) (hr : RowRd w rv r) : Calls Tryz.prog 173 #[.agg #[cv], rv] w fun e w' => e = .returned (.bool (fitsT c r)) ∧ Kept (fun _ => False) w w' := by
 have hk1 : Kept (fun _ => False) w (w.alloc (.cells #[cv] tTab)) := (Kept.refl _ _).alloc _
 have hb1 : (w.alloc (.cells #[cv] tTab)).heap[w.heap.size]? = some (.cells #[cv] tTab (0, 0)) := heap_alloc_self w _
 have HC := Lib.hid (Rd.kept hc hk1 (fun _ _ h => h))
 have HR := Lib.hid (Rd.kept hr hk1 (fun _ _ h => h))
 have HK1 := Lib.hid hk1
 have HB1 := Lib.hid hb1
 obtain ⟨-, m1, co, ccap, rfl, -⟩ := hc
 obtain ⟨-, m2, ro, rcap, rfl, -⟩ := hr
 clear hk1 hb1
 go_enter Tryz.func173, Tryz.ntmps173
 go_upto_region 1 with (fail)
 obtain ⟨W, hW⟩ : ∃ W, W = w.alloc (.cells #[.slice co c.length ccap] tTab) := ⟨_, rfl⟩
 rw [← hW] at HC HR HK1 HB1 ⊢
 generalize w.heap.size = bt at HB1 ⊢
 clear hW
 obtain ⟨b0, bf⟩ := cells1 HB1.out
 have HCH := Lib.hid (rmay_ok HC.out)
 cases hm : mayT c
 ·have HM := Lib.hid (show mayB c = false from hm)
  have HF := Lib.hid (show fitsT c r = false by simp [fitsT, hm])
  clear hm
  go_wp2_with (go_at_call 150; refine HCH.out.mono ?_; rw [HM.out]; rintro e1 w1 ⟨rfl, hk2⟩; have HK2 := Lib.hid hk2; clear hk2 b0 bf)
  go_ret
  rw [HF.out]
  exact ⟨rfl, HK1.out.trans HK2.out (fun _ h => h.elim)⟩
 have HM := Lib.hid (show mayB c = true from hm)
 by_cases hl : r.length = c.length
 ·obtain ⟨N, hN⟩ : ∃ N, r.length = N := ⟨_, rfl⟩
  have HF := Lib.hid (show fitsT c r = fitAt c r N by unfold fitsT; rw [hm, decide_eq_true hl, hN]; rfl)
  have HN := Lib.hid hN
  have hcn : c.length = N := by omega
  have HCN := Lib.hid hcn
  rw [hcn] at HC HCH HB1 b0 m1 ⊢
  rw [hN] at HR m2 ⊢
  unfold maxLen at m1 m2
  clear hm hl hN hcn
  go_upto_region 4 with (go_at_call 150; refine HCH.out.mono ?_; rw [HM.out]; rintro e1 w1 ⟨rfl, hk2⟩; have HK2 := Lib.hid hk2; clear hk2 b0 bf; have hb1 := (HK2.out.block _ (lt_of_heap HB1.out) (fun h => h)).trans HB1.out; obtain ⟨b0, bf⟩ := cells1 hb1; have HB2 := Lib.hid hb1; clear hb1)
  have HC2 := Lib.hid (Rd.kept HC.out HK2.out (fun _ _ h => h))
  have HR2 := Lib.hid (Rd.kept HR.out HK2.out (fun _ _ h => h))
  have HK3 := Lib.hid (HK1.out.trans HK2.out (fun _ h => h.elim))
  clear HC HR HB1 HCH HM HK1 HK2
  go_wp2_with fail
  clear b0 bf
  go_loopw [6] (fun idx wr => ∃ j : Nat, idx = .int .i64 j ∧ j ≤ N ∧ fitAt c r j = true ∧ Kept (fun _ => False) w1 wr) (fun idx _ => N - (intOf idx).toNat)
  case atStart => exact ⟨0, rfl, Nat.zero_le _, by simp [fitAt], Kept.refl _ _⟩
  case round =>
   obtain ⟨j, rfl, hj, hno, hkr⟩ := hrel
   by_cases hlt : j < N
   ·obtain ⟨x, hx⟩ : ∃ x, r[j]? = some x := ⟨r[j]'(by rw [HN.out]; exact hlt), List.getElem?_eq_getElem _⟩
    obtain ⟨b, hb⟩ : ∃ b, c[j]? = some b := ⟨c[j]'(by rw [HCN.out]; exact hlt), List.getElem?_eq_getElem _⟩
    have hrr := Rd.kept HR2.out hkr (fun _ _ h => h)
    obtain ⟨rg, rog, rfl⟩ := row_src hrr hx HN.out
    obtain ⟨cg, cog, rfl⟩ := col_src HC2.out hb HCN.out
    obtain ⟨y0, y1, y2⟩ := key_cells hrr hx
    have HKR := Lib.hid hkr
    have HSUC := Lib.hid (fitAt_succ hx hb)
    have HNO := Lib.hid hno
    have HBC := Lib.hid hb
    have HX := Lib.hid hx
    have hib : (j : Int) < (N : Int) := by omega
    have HRT := Lib.hid (rright_ok x wr)
    clear hx hb hrr hno hkr
    cases hv : valRight x
    ·have HFF := Lib.hid (show fitAt c r N = false from fitAt_less (show j + 1 ≤ N by omega) (by rw [HSUC.out, hv]; simp))
     have HV := Lib.hid hv
     clear hv
     go_upto_region 8 with (go_at_call 151; refine HRT.out.mono ?_; rw [HV.out]; rintro e4 w4 ⟨rfl, hk5⟩; have HK5 := Lib.hid ((HK3.out.trans HKR.out (fun _ h => h.elim)).trans hk5 (fun _ h => h.elim)); clear hk5 y0 y1 y2)
     go_quiet (fail)
     go_wp2_with fail
     go_ret
     rw [HF.out, HFF.out]
     exact ⟨rfl, HK5.out.trans ((Kept.refl (fun _ => False) w4).drewN _) (fun _ h => h.elim)⟩
    ·have HV := Lib.hid hv
     go_upto_region 8 with (go_at_call 151; refine HRT.out.mono ?_; rw [HV.out]; rintro e4 w4 ⟨rfl, hk5⟩; have HK5 := Lib.hid (HKR.out.trans hk5 (fun _ h => h.elim)); clear hk5 y0 y1 y2)
     obtain ⟨b0, bf⟩ := cells1 ((HK5.out.block _ (lt_of_heap HB2.out) (fun h => h)).trans HB2.out)
     have hcc := col_cell (Rd.kept HC2.out HK5.out (fun _ _ h => h)) HBC.out
     obtain ⟨y0, y1, y2⟩ := key_cells (Rd.kept HR2.out HK5.out (fun _ _ h => h)) HX.out
     by_cases hxt : x.t = b
     ·subst hxt
      have HFF := Lib.hid (show fitAt c r (j + 1) = true by rw [HSUC.out, hv, HNO.out]; simp)
      clear hv
      go_quiet (fail)
      go_wp2_with fail
      go_roundw
      case rel => exact ⟨j + 1, by go_num, by omega, HFF.out, HK5.out.trans ((Kept.refl (fun _ => False) w4).drewN _) (fun _ h => h.elim)⟩
      case measure => simp [intOf]; omega
     ·obtain rfl : b = !x.t := by cases b <;> cases h : x.t <;> simp_all
      have HFF := Lib.hid (show fitAt c r N = false from fitAt_less (show j + 1 ≤ N by omega) (by rw [HSUC.out]; simp))
      clear hxt hv
      go_quiet (fail)
      go_wp2_with fail
      go_ret
      rw [HF.out, HFF.out]
      exact ⟨rfl, (HK3.out.trans HK5.out (fun _ h => h.elim)).trans ((Kept.refl (fun _ => False) w4).drewN _) (fun _ h => h.elim)⟩
   ·obtain rfl : j = N := by omega
    have HFF := Lib.hid hno
    have HK9 := Lib.hid (HK3.out.trans hkr (fun _ h => h.elim))
    clear hno hkr
    go_wp2_with fail
    go_ret
    rw [HF.out, HFF.out]
    exact ⟨rfl, HK9.out⟩
 ·have HF := Lib.hid (show fitsT c r = false by unfold fitsT; rw [hm, decide_eq_false hl]; rfl)
  have hl' : ¬ ((r.length : Int) = (c.length : Int)) := by omega
  clear hm hl
  go_wp2_with (go_at_call 150; refine HCH.out.mono ?_; rw [HM.out]; rintro e1 w1 ⟨rfl, hk2⟩; have HK2 := Lib.hid hk2; clear hk2 b0 bf; obtain ⟨b0, bf⟩ := cells1 ((HK2.out.block _ (lt_of_heap HB1.out) (fun h => h)).trans HB1.out))
  go_ret
  rw [HF.out]
  exact ⟨rfl, HK1.out.trans HK2.out (fun _ h => h.elim)⟩
end Go.Proofs.YtgljdkjepdknnaaGreatDoor

/- The document's Size, part, May of predicates (ratlineref03). (printed by genrm2.py) -/
namespace Go.Proofs.YtgljdkjepdknnaaGreatDoor
open Go.ChangeShapes Go.WideShapes Go.ChangeAt Go.RowKit
set_option maxRecDepth 100000
set_option linter.unusedSimpArgs false

set_option maxHeartbeats 4000000 in
theorem rcol_ok {w : World} {cv : Value} {c : List Bool} (i : Int) (v : Val) (hc : ColRd w cv c) :
  Calls Tryz.prog 195 #[.agg #[cv], .int .i64 i, v.v] w fun e w' => e = .returned (.bool (colOk c i v)) ∧ Kept (fun _ => False) w w' := by
 obtain ⟨W1, hW1, hk1, hb1, hb2⟩ := alloc2 w #[cv] #[.bool v.t, .int .i64 v.n, .string v.s] tTab tV
 have HC := Lib.hid (Rd.kept hc hk1 (fun _ _ h => h))
 obtain ⟨_, m1, ao, cap, rfl, _⟩ := hc
 have HW1 := Lib.hid hW1
 have HK1 := Lib.hid hk1
 have HB1 := Lib.hid hb1
 have HB2 := Lib.hid hb2
 have HR := Lib.hid (rright_ok v W1)
 obtain ⟨rr, hrr⟩ : ∃ rr, rr = colOk c i v := ⟨_, rfl⟩
 rw [← hrr]
 have HRR := Lib.hid hrr
 obtain ⟨rv, hrv⟩ : ∃ rv, valRight v = rv := ⟨_, rfl⟩
 rw [hrv] at HR
 have HRV := Lib.hid hrv
 clear hW1 hk1 hb1 hb2 hrr hrv
 unfold maxLen at m1
 go_enter Tryz.func195, Tryz.ntmps195
 go_upto_region 1 with fail
 rw [← HW1.out]
 clear HW1
 generalize w.heap.size + 1 = b2 at *
 generalize w.heap.size = b1 at *
 obtain ⟨x0, x1, x2, xf⟩ := cells3 HB2.out
 go_upto_region 2 with (go_at_call 151; refine HR.out.mono ?_; rintro e1 w1 ⟨rfl, hk1⟩; have HKW := Lib.hid hk1; have HK2 := Lib.hid (HK1.out.trans hk1 (fun _ h => h.elim)); clear hk1 HR x0 x1 x2 xf)
 obtain ⟨x0, x1, x2, xf⟩ := cells3 (kept_blk HKW.out HB2.out)
 obtain ⟨t0, tf⟩ := cells1 (kept_blk HKW.out HB1.out)
 have HC2 := Lib.hid (Rd.kept HC.out HKW.out.drew (fun _ _ h => h))
 by_cases h1 : 0 ≤ i
 ·by_cases h2 : i < (c.length : Int)
  ·obtain ⟨k, rfl⟩ : ∃ k : Nat, i = (k : Int) := ⟨i.toNat, by omega⟩
   obtain ⟨y, hy⟩ : ∃ y, c[k]? = some y := ⟨c[k]'(by omega), List.getElem?_eq_getElem _⟩
   obtain ⟨cg, cog, rfl⟩ := col_src HC2.out hy rfl
   have hcc := col_cell HC2.out hy
   have hg : c.getD ((k : Int)).toNat false = y := by rw [List.getD_eq_getElem?_getD, Int.toNat_natCast, hy]; rfl
   have HV := Lib.hid (show colOk c (k : Int) v = (rv && decide (v.t = y)) by unfold colOk; rw [hg, HRV.out, decide_eq_true h1, decide_eq_true h2]; cases rv <;> cases decide (v.t = y) <;> rfl)
   generalize hN : c.length = N at *
   clear hy hg hN HC HC2
   cases rv
   ·refine wp_region_canon [(0, false, 999), (1, false, 999), (2, false, 999), (3, false, 999), (4, false, 999), (5, false, 999), (6, false, 999), (7, false, 999), (8, false, 999), (9, false, 999), (10, false, 999), (11, false, 999), (12, false, 999), (13, false, 999), (14, false, 999), (15, false, 999), (16, false, 999), (17, false, 999), (18, false, 999), (19, false, 999), (20, false, 999), (21, false, 999), (22, false, 999)] (by kernel_rfl) (by kernel_rfl) ?_
    iterate 3 (refine wpCan_read rfl rfl (fun K hK => ?_); go_simp; refine hK _ ?_; clear hK K)
    iterate 5 (first | (refine wpCan_no rfl rfl ?_; simp only [Act.put, List.setIfInBounds_toArray, List.set_cons_succ, List.set_cons_zero, List.getElem_toArray, List.getElem_cons_succ, List.getElem_cons_zero]) | (refine wpCan_yes rfl rfl (fun K hK => ?_); go_simp; refine hK _ ?_; clear hK K))
    iterate 2 (refine wpCan_read rfl rfl (fun K hK => ?_); go_simp; refine hK _ ?_; clear hK K)
    first | (refine wpCan_no rfl rfl ?_; simp only [Act.put, List.setIfInBounds_toArray, List.set_cons_succ, List.set_cons_zero, List.getElem_toArray, List.getElem_cons_succ, List.getElem_cons_zero]) | (refine wpCan_yes rfl rfl (fun K hK => ?_); go_simp; refine hK _ ?_; clear hK K)
    iterate 2 (refine wpCan_read rfl rfl (fun K hK => ?_); go_simp; refine hK _ ?_; clear hK K)
    iterate 8 (first | (refine wpCan_no rfl rfl ?_; simp only [Act.put, List.setIfInBounds_toArray, List.set_cons_succ, List.set_cons_zero, List.getElem_toArray, List.getElem_cons_succ, List.getElem_cons_zero]) | (refine wpCan_yes rfl rfl (fun K hK => ?_); go_simp; refine hK _ ?_; clear hK K))
    iterate 2 (refine wpCan_read rfl rfl (fun K hK => ?_); go_simp; refine hK _ ?_; clear hK K)
    refine wpCan_nil ?_
    go_wp2_with fail
    go_ret
    exact ⟨by rw [HRR.out, HV.out]; rfl, HK2.out.drew⟩
   ·by_cases h3 : v.t = y
    ·subst h3
     refine wp_region_canon [(0, false, 999), (1, false, 999), (2, false, 999), (3, false, 999), (4, false, 999), (5, false, 999), (6, false, 999), (7, false, 999), (8, false, 999), (9, false, 999), (10, false, 999), (11, false, 999), (12, false, 999), (13, false, 999), (14, false, 999), (15, false, 999), (16, false, 999), (17, false, 999), (18, false, 999), (19, false, 999), (20, false, 999), (21, false, 999), (22, false, 999)] (by kernel_rfl) (by kernel_rfl) ?_
     iterate 3 (refine wpCan_read rfl rfl (fun K hK => ?_); go_simp; refine hK _ ?_; clear hK K)
     iterate 5 (first | (refine wpCan_no rfl rfl ?_; simp only [Act.put, List.setIfInBounds_toArray, List.set_cons_succ, List.set_cons_zero, List.getElem_toArray, List.getElem_cons_succ, List.getElem_cons_zero]) | (refine wpCan_yes rfl rfl (fun K hK => ?_); go_simp; refine hK _ ?_; clear hK K))
     iterate 2 (refine wpCan_read rfl rfl (fun K hK => ?_); go_simp; refine hK _ ?_; clear hK K)
     first | (refine wpCan_no rfl rfl ?_; simp only [Act.put, List.setIfInBounds_toArray, List.set_cons_succ, List.set_cons_zero, List.getElem_toArray, List.getElem_cons_succ, List.getElem_cons_zero]) | (refine wpCan_yes rfl rfl (fun K hK => ?_); go_simp; refine hK _ ?_; clear hK K)
     iterate 2 (refine wpCan_read rfl rfl (fun K hK => ?_); go_simp; refine hK _ ?_; clear hK K)
     iterate 8 (first | (refine wpCan_no rfl rfl ?_; simp only [Act.put, List.setIfInBounds_toArray, List.set_cons_succ, List.set_cons_zero, List.getElem_toArray, List.getElem_cons_succ, List.getElem_cons_zero]) | (refine wpCan_yes rfl rfl (fun K hK => ?_); go_simp; refine hK _ ?_; clear hK K))
     iterate 2 (refine wpCan_read rfl rfl (fun K hK => ?_); go_simp; refine hK _ ?_; clear hK K)
     refine wpCan_nil ?_
     go_wp2_with fail
     go_ret
     exact ⟨by rw [HRR.out, HV.out]; simp, HK2.out.drew⟩
    ·obtain rfl : y = !v.t := by cases y <;> cases h : v.t <;> simp_all
     refine wp_region_canon [(0, false, 999), (1, false, 999), (2, false, 999), (3, false, 999), (4, false, 999), (5, false, 999), (6, false, 999), (7, false, 999), (8, false, 999), (9, false, 999), (10, false, 999), (11, false, 999), (12, false, 999), (13, false, 999), (14, false, 999), (15, false, 999), (16, false, 999), (17, false, 999), (18, false, 999), (19, false, 999), (20, false, 999), (21, false, 999), (22, false, 999)] (by kernel_rfl) (by kernel_rfl) ?_
     iterate 3 (refine wpCan_read rfl rfl (fun K hK => ?_); go_simp; refine hK _ ?_; clear hK K)
     iterate 5 (first | (refine wpCan_no rfl rfl ?_; simp only [Act.put, List.setIfInBounds_toArray, List.set_cons_succ, List.set_cons_zero, List.getElem_toArray, List.getElem_cons_succ, List.getElem_cons_zero]) | (refine wpCan_yes rfl rfl (fun K hK => ?_); go_simp; refine hK _ ?_; clear hK K))
     iterate 2 (refine wpCan_read rfl rfl (fun K hK => ?_); go_simp; refine hK _ ?_; clear hK K)
     first | (refine wpCan_no rfl rfl ?_; simp only [Act.put, List.setIfInBounds_toArray, List.set_cons_succ, List.set_cons_zero, List.getElem_toArray, List.getElem_cons_succ, List.getElem_cons_zero]) | (refine wpCan_yes rfl rfl (fun K hK => ?_); go_simp; refine hK _ ?_; clear hK K)
     iterate 2 (refine wpCan_read rfl rfl (fun K hK => ?_); go_simp; refine hK _ ?_; clear hK K)
     iterate 8 (first | (refine wpCan_no rfl rfl ?_; simp only [Act.put, List.setIfInBounds_toArray, List.set_cons_succ, List.set_cons_zero, List.getElem_toArray, List.getElem_cons_succ, List.getElem_cons_zero]) | (refine wpCan_yes rfl rfl (fun K hK => ?_); go_simp; refine hK _ ?_; clear hK K))
     iterate 2 (refine wpCan_read rfl rfl (fun K hK => ?_); go_simp; refine hK _ ?_; clear hK K)
     refine wpCan_nil ?_
     go_wp2_with fail
     go_ret
     exact ⟨by rw [HRR.out, HV.out]; simp, HK2.out.drew⟩
  ·have HV := Lib.hid (show colOk c i v = false by unfold colOk; rw [decide_eq_false h2]; simp)
   clear HC2
   refine wp_region_canon [(0, false, 999), (1, false, 999), (2, false, 999), (3, false, 999), (4, false, 999), (5, false, 999), (6, false, 999), (7, false, 999), (8, false, 999), (9, false, 999), (10, false, 999), (11, false, 999), (12, false, 999), (13, false, 999), (14, false, 999), (15, false, 999), (16, false, 999), (17, false, 999), (18, false, 999), (19, false, 999), (20, false, 999), (21, false, 999), (22, false, 999)] (by kernel_rfl) (by kernel_rfl) ?_
   iterate 3 (refine wpCan_read rfl rfl (fun K hK => ?_); go_simp; refine hK _ ?_; clear hK K)
   iterate 5 (first | (refine wpCan_no rfl rfl ?_; simp only [Act.put, List.setIfInBounds_toArray, List.set_cons_succ, List.set_cons_zero, List.getElem_toArray, List.getElem_cons_succ, List.getElem_cons_zero]) | (refine wpCan_yes rfl rfl (fun K hK => ?_); go_simp; refine hK _ ?_; clear hK K))
   iterate 2 (refine wpCan_read rfl rfl (fun K hK => ?_); go_simp; refine hK _ ?_; clear hK K)
   first | (refine wpCan_no rfl rfl ?_; simp only [Act.put, List.setIfInBounds_toArray, List.set_cons_succ, List.set_cons_zero, List.getElem_toArray, List.getElem_cons_succ, List.getElem_cons_zero]) | (refine wpCan_yes rfl rfl (fun K hK => ?_); go_simp; refine hK _ ?_; clear hK K)
   iterate 2 (refine wpCan_read rfl rfl (fun K hK => ?_); go_simp; refine hK _ ?_; clear hK K)
   iterate 8 (first | (refine wpCan_no rfl rfl ?_; simp only [Act.put, List.setIfInBounds_toArray, List.set_cons_succ, List.set_cons_zero, List.getElem_toArray, List.getElem_cons_succ, List.getElem_cons_zero]) | (refine wpCan_yes rfl rfl (fun K hK => ?_); go_simp; refine hK _ ?_; clear hK K))
   iterate 2 (refine wpCan_read rfl rfl (fun K hK => ?_); go_simp; refine hK _ ?_; clear hK K)
   refine wpCan_nil ?_
   go_wp2_with fail
   go_ret
   exact ⟨by rw [HRR.out, HV.out]; rfl, HK2.out.drew⟩
 ·have HV := Lib.hid (show colOk c i v = false by unfold colOk; rw [decide_eq_false h1]; simp)
  clear HC2
  refine wp_region_canon [(0, false, 999), (1, false, 999), (2, false, 999), (3, false, 999), (4, false, 999), (5, false, 999), (6, false, 999), (7, false, 999), (8, false, 999), (9, false, 999), (10, false, 999), (11, false, 999), (12, false, 999), (13, false, 999), (14, false, 999), (15, false, 999), (16, false, 999), (17, false, 999), (18, false, 999), (19, false, 999), (20, false, 999), (21, false, 999), (22, false, 999)] (by kernel_rfl) (by kernel_rfl) ?_
  iterate 3 (refine wpCan_read rfl rfl (fun K hK => ?_); go_simp; refine hK _ ?_; clear hK K)
  iterate 5 (first | (refine wpCan_no rfl rfl ?_; simp only [Act.put, List.setIfInBounds_toArray, List.set_cons_succ, List.set_cons_zero, List.getElem_toArray, List.getElem_cons_succ, List.getElem_cons_zero]) | (refine wpCan_yes rfl rfl (fun K hK => ?_); go_simp; refine hK _ ?_; clear hK K))
  iterate 2 (refine wpCan_read rfl rfl (fun K hK => ?_); go_simp; refine hK _ ?_; clear hK K)
  first | (refine wpCan_no rfl rfl ?_; simp only [Act.put, List.setIfInBounds_toArray, List.set_cons_succ, List.set_cons_zero, List.getElem_toArray, List.getElem_cons_succ, List.getElem_cons_zero]) | (refine wpCan_yes rfl rfl (fun K hK => ?_); go_simp; refine hK _ ?_; clear hK K)
  iterate 2 (refine wpCan_read rfl rfl (fun K hK => ?_); go_simp; refine hK _ ?_; clear hK K)
  iterate 8 (first | (refine wpCan_no rfl rfl ?_; simp only [Act.put, List.setIfInBounds_toArray, List.set_cons_succ, List.set_cons_zero, List.getElem_toArray, List.getElem_cons_succ, List.getElem_cons_zero]) | (refine wpCan_yes rfl rfl (fun K hK => ?_); go_simp; refine hK _ ?_; clear hK K))
  iterate 2 (refine wpCan_read rfl rfl (fun K hK => ?_); go_simp; refine hK _ ?_; clear hK K)
  refine wpCan_nil ?_
  go_wp2_with fail
  go_ret
  exact ⟨by rw [HRR.out, HV.out]; rfl, HK2.out.drew⟩
/-- the size behind some parts -/
def sizeTo (es : List PredE) (j : Nat) : Nat := 1 + ((es.take j).flatMap (fun e => e.p.nodes)).length
theorem sizeTo_succ {es : List PredE} {j : Nat} {e : PredE} (he : es[j]? = some e) : sizeTo es (j + 1) = sizeTo es j + e.p.nodes.length := by
 unfold sizeTo
 rw [List.take_add_one, he, List.flatMap_append, List.length_append]
 simp
 omega
theorem sizeTo_le (es : List PredE) (j : Nat) : sizeTo es j ≤ 1 + (es.flatMap (fun e => e.p.nodes)).length := by
 unfold sizeTo
 have h2 : es.flatMap (fun e => e.p.nodes) = (es.take j).flatMap (fun e => e.p.nodes) ++ (es.drop j).flatMap (fun e => e.p.nodes) := by rw [← List.flatMap_append, List.take_append_drop]
 rw [h2, List.length_append]
 omega
set_option maxHeartbeats 4000000 in
theorem rsize_ok : ∀ (p : PredT) (x : PredE) (w : World), x.p = p → p.nodes.length ≤ 1000000 → PredsRd w (.slice x.la x.ln x.lc) x.subs →
  Calls Tryz.prog 174 #[.agg x.cells.toArray] w fun e w' => e = .returned (.int .i64 (p.nodes.length : Int)) ∧ Kept (fun _ => False) w w' := by
 refine PredT.ind fun op col v w0 pl ih x w hx hn hat => ?_
 have hl : x.subs = pl := by unfold PredE.p at hx; cases hx; rfl
 obtain ⟨W1, hW1, hk1, hb1⟩ : ∃ W, W = w.alloc (.cells x.cells.toArray tPr) ∧ Kept (fun _ => False) w W ∧ W.heap[w.heap.size]? = some (.cells x.cells.toArray tPr (0, 0)) := ⟨_, rfl, (Kept.refl _ _).alloc _, heap_alloc_self _ _⟩
 have hat1 := hat.kept hk1
 obtain ⟨es, hrd, hsub, hes⟩ : ∃ es : List PredE, Rd W1 9 (.slice x.la x.ln x.lc) es.length (es.flatMap PredE.cells) ∧ x.subs = es.map PredE.p ∧ ∀ e ∈ es, PredsRd W1 (.slice e.la e.ln e.lc) e.subs := by
  generalize x.subs = xs at hat1
  cases hat1 with
  | mk _ es he hes => exact ⟨es, he, rfl, hes⟩
 have hne : (PredT.mk op col v w0 pl).nodes.length = 1 + (es.flatMap (fun e => e.p.nodes)).length := by rw [nodes_eq, ← hl, hsub, List.flatMap_map, List.length_cons]; omega
 have HNE := Lib.hid hne
 rw [hne] at hn
 obtain ⟨_, _, ra, rc, hav, _⟩ := id hrd
 have hln : x.ln = es.length := (Value.slice.inj hav).2.1
 have hml := hrd.2.1
 unfold maxLen at hml
 obtain ⟨N, hN⟩ : ∃ N, es.length = N := ⟨_, rfl⟩
 rw [hln, hN] at hrd
 rw [hN] at hml
 have HIH := Lib.hid (show ∀ (j : Nat) (e : PredE) (W : World), es[j]? = some e → Kept (fun _ => False) W1 W → Calls Tryz.prog 174 #[.agg e.cells.toArray] W fun r w' => r = .returned (.int .i64 (e.p.nodes.length : Int)) ∧ Kept (fun _ => False) W w' from
  fun j e W he k => ih e.p (by rw [← hl, hsub]; exact List.mem_map_of_mem (List.mem_of_getElem? he)) e W rfl (by
   have h1 : e.p.nodes.length ≤ (es.flatMap (fun e => e.p.nodes)).length := by
    obtain ⟨a, b, rfl⟩ := List.append_of_mem (List.mem_of_getElem? he)
    simp
    omega
   omega) ((hes e (List.mem_of_getElem? he)).kept k))
 have HRD := Lib.hid hrd
 have HN := Lib.hid hN
 have HLN := Lib.hid (show x.ln = N by rw [hln, hN])
 have HW1 := Lib.hid hW1
 have HK1 := Lib.hid hk1
 have HB1 := Lib.hid hb1
 obtain ⟨rr, hrr⟩ : ∃ rr : Int, rr = ((PredT.mk op col v w0 pl).nodes.length : Int) := ⟨_, rfl⟩
 rw [← hrr]
 have HRR := Lib.hid hrr
 clear ih hx hat hat1 hl hsub hes hrd hav hln hne hN hW1 hk1 hb1 hrr
 go_enter Tryz.func174, Tryz.ntmps174
 go_upto_region 1 with fail
 rw [← HW1.out]
 clear HW1
 generalize w.heap.size = bx at *
 obtain ⟨la, hla⟩ : ∃ la, la = x.la := ⟨_, rfl⟩
 obtain ⟨lc, hlc⟩ : ∃ lc, lc = x.lc := ⟨_, rfl⟩
 have HB := Lib.hid (show ∀ W, Kept (fun _ => False) W1 W → W.cell? ⟨bx, 8, none⟩ = some (.slice la N lc) from fun W k => by
  obtain ⟨_, _, _, _, _, _, _, _, h8⟩ := boxPr (kept_blk k HB1.out)
  rw [HLN.out, ← hla, ← hlc] at h8
  exact h8)
 rw [← hla, ← hlc] at HRD
 clear hla hlc
 go_wp2_with fail
 go_loopw [3, 4] (fun u i wr => ∃ j : Nat, i = .int .i64 j ∧ u = .int .i64 (sizeTo es j : Int) ∧ j ≤ N ∧ Kept (fun _ => False) W1 wr) (fun _ i _ => N - (intOf i).toNat)
 case atStart => exact ⟨0, rfl, rfl, by omega, Kept.refl _ _⟩
 case round =>
  obtain ⟨j, rfl, rfl, hj, hk⟩ := hrel
  have HK := Lib.hid hk
  have x8 := HB.out wr hk
  clear hk
  by_cases hlt : j < N
  ·have hii : (j : Int) < (N : Int) := by omega
   obtain ⟨e, he⟩ : ∃ e, es[j]? = some e := ⟨es[j]'(by rw [HN.out]; exact hlt), List.getElem?_eq_getElem _⟩
   obtain ⟨g, og, rfl, hrng⟩ := elem_range PredE.len (Rd.kept HRD.out HK.out (fun _ _ h => h)) he HN.out
   have HL := Lib.hid (loadPr hrng)
   have HC := Lib.hid (HIH.out j e wr he HK.out)
   have HST := Lib.hid (sizeTo_succ he)
   have hb := sizeTo_le es (j + 1)
   rw [HST.out] at hb
   clear he hrng
   generalize sizeTo es j = a at *
   generalize e.p.nodes.length = b at *
   have hw : IntKind.i64.wrap ((a : Int) + (b : Int)) = (a : Int) + (b : Int) := IntWalk.i64_in _ (by omega)
   go_wp2_with (first | (refine wpList_ld rfl _ _ rfl _ _ rfl _ HL.out ?_) | (go_at_call 174; refine HC.out.mono ?_; rintro e4 w4 ⟨rfl, hk4⟩; have HK4 := Lib.hid (HK.out.trans hk4 (fun _ h => h.elim)); clear hk4 HC HL))
   go_roundw
   case rel => exact ⟨j + 1, by go_num, by rw [HST.out]; go_num, by omega, HK4.out⟩
   case measure => simp [intOf]; omega
  ·have hii : ¬ ((j : Int) < (N : Int)) := by omega
   have HT := Lib.hid (show sizeTo es j = 1 + (es.flatMap (fun e => e.p.nodes)).length by unfold sizeTo; rw [List.take_of_length_le (by rw [HN.out]; omega)])
   go_wp2_with fail
   go_ret
   exact ⟨by rw [HRR.out, HNE.out, ← HT.out]; rfl, HK1.out.trans HK.out (fun _ h => h.elim)⟩
end Go.Proofs.YtgljdkjepdknnaaGreatDoor
