/- The document's May of a claim (ratlineref09.May). (printed by genrm5.py) -/
import Derived.Test.YtgljdkjepdknnaaGreatDoorMR45
namespace Go.Proofs.YtgljdkjepdknnaaGreatDoor
open Go.ChangeShapes Go.WideShapes Go.ChangeAt Go.RowKit
set_option maxRecDepth 100000
set_option linter.unusedSimpArgs false

theorem onRowK_yes {c : List Bool} {x : Clm} (h : x.mode = 3 ∨ x.mode = 5 ∨ x.mode = 6) : onRowK c x = (valRight x.key && (decide (x.key.t = c.getD 0 false) && imagesK c x)) := by
 unfold onRowK imagesK
 rw [Bool.and_assoc]
 congr 2
 rcases h with h | h | h <;> rw [h] <;> rfl
theorem onRowK_no {c : List Bool} {x : Clm} (h : ¬ (x.mode = 3 ∨ x.mode = 5 ∨ x.mode = 6)) : onRowK c x = false := by
 unfold onRowK
 rw [if_neg (by omega), if_neg (by omega)]
 simp
set_option maxHeartbeats 16000000 in
theorem rMay_ok {B w : World} {D : PH} {l : List HP} {tv : Value} {ts : List (List Bool)} (ht : TblsAt D tv ts) (x : ClmE) (hx : ClOk D x) (hnd : x.pr.p.nodes.length ≤ 1000000) (hs : Sat B D w l) :
  Calls Tryz.prog 104 #[tv, .agg x.cells.toArray] w fun e w' => e = .returned (.bool (mayK ts x.c)) ∧ Sat B D w' l := by
 obtain ⟨rr, hrr⟩ : ∃ rr, rr = mayK ts x.c := ⟨_, rfl⟩
 rw [← hrr]
 have HRR := Lib.hid hrr
 clear hrr
 obtain ⟨us, hl, hone, hrd, hth⟩ := ht
 obtain ⟨ta, tc, rfl⟩ := hrd.shape
 obtain ⟨W1, hW1, hs1⟩ := Sat.hide (hs.alloc x.cells.toArray tCl)
 have HW1 := Lib.hid hW1
 have HS1 := Lib.hid hs1
 have hml := hrd.2.1
 unfold maxLen at hml
 have HRD := Lib.hid hrd
 have HTH := Lib.hid hth
 have HX := Lib.hid hx
 have HND := Lib.hid hnd
 have HUL := Lib.hid hl
 obtain ⟨N, hN⟩ : ∃ N, ts.length = N := ⟨_, rfl⟩
 have HN := Lib.hid hN
 rw [hN] at hml HRD
 rw [hN]
 clear hs hs1 hW1 hth hrd hx hnd hl hone
 by_cases hin : 0 ≤ x.table ∧ x.table < (N : Int)
 rotate_left
 ·have HO := Lib.hid (show mayK ts x.c = false from mayK_out (by rw [hN]; exact hin))
  clear hN
  by_cases h0 : x.table < 0
  ·go_enter Tryz.func104, Tryz.ntmps104
   go_upto_region 1 with fail
   rw [← HW1.out]
   clear HW1
   generalize w.heap.size = bx at HS1 ⊢
   obtain ⟨x0, x1, x2⟩ := boxTb (HS1.out.blk 0 rfl)
   go_wp2_with fail
   go_ret
   exact ⟨by rw [HRR.out, HO.out]; rfl, HS1.out.drop⟩
  ·have h1 : x.table ≥ (N : Int) := by omega
   go_enter Tryz.func104, Tryz.ntmps104
   go_upto_region 1 with fail
   rw [← HW1.out]
   clear HW1
   generalize w.heap.size = bx at HS1 ⊢
   obtain ⟨x0, x1, x2⟩ := boxTb (HS1.out.blk 0 rfl)
   go_wp2_with fail
   go_ret
   exact ⟨by rw [HRR.out, HO.out]; rfl, HS1.out.drop⟩
 obtain ⟨k, hk⟩ : ∃ k : Nat, x.table = (k : Int) := ⟨x.table.toNat, by omega⟩
 have hkN : k < N := by omega
 obtain ⟨c, hc⟩ : ∃ c, ts[k]? = some c := ⟨ts[k]'(by omega), List.getElem?_eq_getElem _⟩
 obtain ⟨u, hu⟩ : ∃ u, us[k]? = some u := ⟨us[k]'(by have := HUL.out; omega), List.getElem?_eq_getElem _⟩
 have HMAY := Lib.hid (mayK_at (x := x.c) hk hc)
 have hcr := HTH.out k u c hu hc
 have hrr := HRD.out.rd HS1.out
 obtain ⟨g, og, rfl⟩ : ∃ g og, ta = some ⟨g, og, none⟩ := by
  rcases hrr.2.2 with ⟨_, _, hv, _, _, _, hcase⟩
  cases hv
  rcases hcase with h0 | ⟨g, o, hg, _⟩
  ·omega
  ·exact ⟨g, o, hg⟩
 have hcell : W1.cell? ⟨g, og + k, none⟩ = some u := by
  rcases hrr.2.2 with ⟨_, _, hv, _, _, _, hcase⟩
  cases hv
  rcases hcase with h0 | ⟨g', o', hg, hcl⟩
  ·omega
  ·cases hg; exact hcl k u hu
 have HCR := Lib.hid hcr
 obtain ⟨_, _, ua, uc, rfl, _⟩ := hcr
 have hb1 : (k : Int) < (N : Int) := by omega
 have hb2 : ¬ (k : Int) ≥ (N : Int) := by omega
 have hb3 : ¬ (k : Int) < 0 := by omega
 have HK := Lib.hid hk
 clear hc hu hrr hN hin HTH HRD
 go_enter Tryz.func104, Tryz.ntmps104
 go_upto_region 1 with fail
 rw [← HW1.out]
 clear HW1
 generalize w.heap.size = bx at HS1 ⊢
 obtain ⟨x0, x1, x2⟩ := boxTb (HS1.out.blk 0 rfl)
 rw [HK.out] at x1
 clear hk
 have HS3 := Lib.hid (HS1.out.alloc #[.slice ua c.length uc] tTab)
 go_upto_region 4 with fail
 obtain ⟨W3, hW3, hs3⟩ := Sat.hide HS3.out
 rw [← hW3]
 clear hW3 HS3 HS1 x0 x1 x2 hcell
 generalize W1.heap.size = bt at hs3 ⊢
 have HMY := Lib.hid (rmay_ok (HCR.out.rd hs3))
 obtain ⟨t0, tf⟩ := cells1 (hs3.blk 0 rfl)
 have HS3 := Lib.hid hs3
 clear hs3
 cases hm : mayT c
 ·rw [show mayB c = false from hm] at HMY
  have HO := Lib.hid (show mayK ts x.c = false by rw [HMAY.out, hm]; rfl)
  clear hm
  go_wp2_with (go_at_call 150; refine HMY.out.mono ?_; rintro e1 w1 ⟨rfl, hk1⟩; have HS4 := Lib.hid (HS3.out.kept hk1); clear hk1 HMY HS3 t0 tf)
  go_ret
  exact ⟨by rw [HRR.out, HO.out]; rfl, HS4.out.drop.drop⟩
 rw [show mayB c = true from hm] at HMY
 have HKI := Lib.hid (show mayK ts x.c = kindK c x.c by rw [HMAY.out, hm]; rfl)
 have hc1 : 1 ≤ c.length := by unfold mayT at hm; simp at hm; exact hm.1
 have HM := Lib.hid hm
 clear hm
 go_upto_region 7 with (go_at_call 150; refine HMY.out.mono ?_; rintro e1 w1 ⟨rfl, hk1⟩; have HS4 := Lib.hid (HS3.out.kept hk1); clear hk1 HMY HS3 t0 tf)
 obtain ⟨t0, tf⟩ := cells1 (HS4.out.blk 0 rfl)
 obtain ⟨x0, x1, x2⟩ := boxTb (HS4.out.blk 1 rfl)
 have h4 : x.kind = 1 ∨ x.kind = 2 ∨ x.kind = 3 ∨ (¬ x.kind = 1 ∧ ¬ x.kind = 2 ∧ ¬ x.kind = 3) := by omega
 rcases h4 with h | h | h | ⟨n1, n2, n3⟩
 ·rw [h] at x0
  have HKK := Lib.hid (show kindK c x.c = (modeR x.mode && !decide (x.mode = 0)) by unfold kindK; rw [if_pos (show x.c.kind = 1 from h)]; rfl)
  clear h
  by_cases h1 : x.mode ≥ 1
  ·by_cases h6 : x.mode ≤ 6
   ·have HO := Lib.hid (show mayK ts x.c = true by rw [HKI.out, HKK.out]; unfold modeR; simp; omega)
    go_wp2_with fail
    go_ret
    exact ⟨by rw [HRR.out, HO.out]; rfl, HS4.out.drop.drop⟩
   ·have HO := Lib.hid (show mayK ts x.c = false by rw [HKI.out, HKK.out]; unfold modeR; simp; omega)
    go_wp2_with fail
    go_ret
    exact ⟨by rw [HRR.out, HO.out]; rfl, HS4.out.drop.drop⟩
  ·have HO := Lib.hid (show mayK ts x.c = false by rw [HKI.out, HKK.out]; unfold modeR; simp; omega)
   go_wp2_with fail
   go_ret
   exact ⟨by rw [HRR.out, HO.out]; rfl, HS4.out.drop.drop⟩
 ·rw [h] at x0
  have HKK := Lib.hid (show kindK c x.c = onRowK c x.c by unfold kindK; rw [if_neg (show ¬ x.c.kind = 1 by show ¬ x.kind = 1; omega), if_pos (show x.c.kind = 2 from h)])
  clear h
  obtain ⟨y, hy⟩ : ∃ y, c[0]? = some y := ⟨c[0]'(by omega), List.getElem?_eq_getElem _⟩
  obtain ⟨cg, cog, rfl⟩ := col_src (HCR.out.rd HS4.out) hy rfl
  have hg : c.getD 0 false = y := by rw [List.getD_eq_getElem?_getD, hy]; rfl
  have HY := Lib.hid (show ∀ w2 l2, Sat B D w2 l2 → w2.cell? ⟨cg, cog, none⟩ = some (.bool y) from fun w2 l2 s => by have := col_cell (HCR.out.rd s) hy; simpa using this)
  obtain ⟨rb, hrb⟩ : ∃ rb, valRight x.key = rb := ⟨_, rfl⟩
  obtain ⟨im, him⟩ : ∃ im, imagesK c x.c = im := ⟨_, rfl⟩
  have HRT := Lib.hid (rright_ok x.key w1)
  have HIM := Lib.hid (fun w2 (s : Sat B D w2 (blk bt #[.slice (some ⟨cg, cog, none⟩) c.length uc] tTab :: blk bx x.cells.toArray tCl :: l)) => rimages_ok (HCR.out.rd s) (HX.out.rd s))
  rw [hrb] at HRT
  rw [him] at HIM
  have HYES := Lib.hid (show (x.mode = 3 ∨ x.mode = 5 ∨ x.mode = 6) → mayK ts x.c = (rb && (decide (x.key.t = y) && im)) from fun h => by rw [HKI.out, HKK.out, onRowK_yes h, him, hg]; rw [show valRight x.c.key = rb from hrb]; rfl)
  have HNO := Lib.hid (show ¬ (x.mode = 3 ∨ x.mode = 5 ∨ x.mode = 6) → mayK ts x.c = false from fun h => by rw [HKI.out, HKK.out, onRowK_no h])
  obtain ⟨k0, k1, k2⟩ := boxKey (HS4.out.blk 1 rfl)
  obtain ⟨N1, hN1⟩ : ∃ N1, c.length = N1 := ⟨_, rfl⟩
  have HN1 := Lib.hid hN1
  have hc0 : 0 < N1 := by omega
  clear hy hg hrb him hN1
  go_upto_region 12 with (go_at_call 151; refine HRT.out.mono ?_; rintro e5 w5 ⟨rfl, hk5⟩; have HS5 := Lib.hid (HS4.out.kept hk5); clear hk5 HRT HS4 x0 x1 x2 t0 tf k0 k1 k2)
  obtain ⟨t0, tf⟩ := cells1 (HS5.out.blk 0 rfl)
  have HL := Lib.hid (loadCl (blk_range (HS5.out.blk 1 rfl)))
  have HI5 := Lib.hid (HIM.out w5 HS5.out)
  go_upto_region 13 with (first | (refine wpList_ld rfl _ _ rfl _ _ rfl _ HL.out ?_) | (go_at_call 152; refine HI5.out.mono ?_; rintro e6 w6 ⟨rfl, hk6⟩; have HS6 := Lib.hid (HS5.out.kept hk6); clear hk6 HI5 HIM HS5 HL t0 tf))
  obtain ⟨t0, tf⟩ := cells1 (HS6.out.blk 0 rfl)
  obtain ⟨x0, x1, x2⟩ := boxTb (HS6.out.blk 1 rfl)
  obtain ⟨k0, k1, k2⟩ := boxKey (HS6.out.blk 1 rfl)
  have hy := HY.out _ _ HS6.out
  rw [HN1.out] at t0
  have h4 : x.mode = 3 ∨ x.mode = 5 ∨ x.mode = 6 ∨ ¬ (x.mode = 3 ∨ x.mode = 5 ∨ x.mode = 6) := by omega
  rcases h4 with h | h | h | h
  ·skip
   have HV := Lib.hid (HYES.out (.inl h))
   rw [h] at x2
   clear h HYES HNO
   cases rb
   ·have HO := Lib.hid (show mayK ts x.c = false by rw [HV.out]; rfl)
    refine wp_region_canon [(0, false, 999), (1, false, 999), (2, false, 999), (3, false, 999), (4, false, 999), (5, false, 999), (6, false, 999), (7, false, 999), (8, false, 999), (9, false, 999), (10, false, 999), (11, false, 999), (12, false, 999), (13, false, 999), (14, false, 999), (15, false, 999), (16, false, 999), (17, false, 999), (18, false, 999), (19, false, 999), (20, false, 999), (21, false, 999), (22, false, 999), (23, false, 999), (24, false, 999), (25, false, 999), (26, false, 999), (27, false, 999), (28, false, 999), (29, false, 999)] (by kernel_rfl) (by kernel_rfl) ?_
    iterate 4 (refine wpCan_read rfl rfl (fun K hK => ?_); go_simp; refine hK _ ?_; clear hK K)
    iterate 3 (first | (refine wpCan_no rfl rfl ?_; simp only [Act.put, List.setIfInBounds_toArray, List.set_cons_succ, List.set_cons_zero, List.getElem_toArray, List.getElem_cons_succ, List.getElem_cons_zero]) | (refine wpCan_yes rfl rfl (fun K hK => ?_); go_simp; refine hK _ ?_; clear hK K))
    iterate 2 (refine wpCan_read rfl rfl (fun K hK => ?_); go_simp; refine hK _ ?_; clear hK K)
    iterate 3 (first | (refine wpCan_no rfl rfl ?_; simp only [Act.put, List.setIfInBounds_toArray, List.set_cons_succ, List.set_cons_zero, List.getElem_toArray, List.getElem_cons_succ, List.getElem_cons_zero]) | (refine wpCan_yes rfl rfl (fun K hK => ?_); go_simp; refine hK _ ?_; clear hK K))
    iterate 2 (refine wpCan_read rfl rfl (fun K hK => ?_); go_simp; refine hK _ ?_; clear hK K)
    first | (refine wpCan_no rfl rfl ?_; simp only [Act.put, List.setIfInBounds_toArray, List.set_cons_succ, List.set_cons_zero, List.getElem_toArray, List.getElem_cons_succ, List.getElem_cons_zero]) | (refine wpCan_yes rfl rfl (fun K hK => ?_); go_simp; refine hK _ ?_; clear hK K)
    iterate 2 (refine wpCan_read rfl rfl (fun K hK => ?_); go_simp; refine hK _ ?_; clear hK K)
    iterate 8 (first | (refine wpCan_no rfl rfl ?_; simp only [Act.put, List.setIfInBounds_toArray, List.set_cons_succ, List.set_cons_zero, List.getElem_toArray, List.getElem_cons_succ, List.getElem_cons_zero]) | (refine wpCan_yes rfl rfl (fun K hK => ?_); go_simp; refine hK _ ?_; clear hK K))
    iterate 2 (refine wpCan_read rfl rfl (fun K hK => ?_); go_simp; refine hK _ ?_; clear hK K)
    first | (refine wpCan_no rfl rfl ?_; simp only [Act.put, List.setIfInBounds_toArray, List.set_cons_succ, List.set_cons_zero, List.getElem_toArray, List.getElem_cons_succ, List.getElem_cons_zero]) | (refine wpCan_yes rfl rfl (fun K hK => ?_); go_simp; refine hK _ ?_; clear hK K)
    iterate 2 (refine wpCan_read rfl rfl (fun K hK => ?_); go_simp; refine hK _ ?_; clear hK K)
    refine wpCan_nil ?_
    go_wp2_with fail
    go_ret
    exact ⟨by rw [HRR.out, HO.out]; rfl, HS6.out.drew.drop.drop⟩
   ·by_cases hty : x.key.t = y
    ·have HO := Lib.hid (show mayK ts x.c = im by rw [HV.out, decide_eq_true hty]; rfl)
     subst hty
     refine wp_region_canon [(0, false, 999), (1, false, 999), (2, false, 999), (3, false, 999), (4, false, 999), (5, false, 999), (6, false, 999), (7, false, 999), (8, false, 999), (9, false, 999), (10, false, 999), (11, false, 999), (12, false, 999), (13, false, 999), (14, false, 999), (15, false, 999), (16, false, 999), (17, false, 999), (18, false, 999), (19, false, 999), (20, false, 999), (21, false, 999), (22, false, 999), (23, false, 999), (24, false, 999), (25, false, 999), (26, false, 999), (27, false, 999), (28, false, 999), (29, false, 999)] (by kernel_rfl) (by kernel_rfl) ?_
     iterate 4 (refine wpCan_read rfl rfl (fun K hK => ?_); go_simp; refine hK _ ?_; clear hK K)
     iterate 3 (first | (refine wpCan_no rfl rfl ?_; simp only [Act.put, List.setIfInBounds_toArray, List.set_cons_succ, List.set_cons_zero, List.getElem_toArray, List.getElem_cons_succ, List.getElem_cons_zero]) | (refine wpCan_yes rfl rfl (fun K hK => ?_); go_simp; refine hK _ ?_; clear hK K))
     iterate 2 (refine wpCan_read rfl rfl (fun K hK => ?_); go_simp; refine hK _ ?_; clear hK K)
     iterate 3 (first | (refine wpCan_no rfl rfl ?_; simp only [Act.put, List.setIfInBounds_toArray, List.set_cons_succ, List.set_cons_zero, List.getElem_toArray, List.getElem_cons_succ, List.getElem_cons_zero]) | (refine wpCan_yes rfl rfl (fun K hK => ?_); go_simp; refine hK _ ?_; clear hK K))
     iterate 2 (refine wpCan_read rfl rfl (fun K hK => ?_); go_simp; refine hK _ ?_; clear hK K)
     first | (refine wpCan_no rfl rfl ?_; simp only [Act.put, List.setIfInBounds_toArray, List.set_cons_succ, List.set_cons_zero, List.getElem_toArray, List.getElem_cons_succ, List.getElem_cons_zero]) | (refine wpCan_yes rfl rfl (fun K hK => ?_); go_simp; refine hK _ ?_; clear hK K)
     iterate 2 (refine wpCan_read rfl rfl (fun K hK => ?_); go_simp; refine hK _ ?_; clear hK K)
     iterate 8 (first | (refine wpCan_no rfl rfl ?_; simp only [Act.put, List.setIfInBounds_toArray, List.set_cons_succ, List.set_cons_zero, List.getElem_toArray, List.getElem_cons_succ, List.getElem_cons_zero]) | (refine wpCan_yes rfl rfl (fun K hK => ?_); go_simp; refine hK _ ?_; clear hK K))
     iterate 2 (refine wpCan_read rfl rfl (fun K hK => ?_); go_simp; refine hK _ ?_; clear hK K)
     first | (refine wpCan_no rfl rfl ?_; simp only [Act.put, List.setIfInBounds_toArray, List.set_cons_succ, List.set_cons_zero, List.getElem_toArray, List.getElem_cons_succ, List.getElem_cons_zero]) | (refine wpCan_yes rfl rfl (fun K hK => ?_); go_simp; refine hK _ ?_; clear hK K)
     iterate 2 (refine wpCan_read rfl rfl (fun K hK => ?_); go_simp; refine hK _ ?_; clear hK K)
     refine wpCan_nil ?_
     go_wp2_with fail
     go_ret
     exact ⟨by rw [HRR.out, HO.out]; rfl, HS6.out.drew.drop.drop⟩
    ·have HO := Lib.hid (show mayK ts x.c = false by rw [HV.out, decide_eq_false hty]; rfl)
     obtain rfl : y = !x.key.t := by cases y <;> cases h : x.key.t <;> simp_all
     clear hty
     refine wp_region_canon [(0, false, 999), (1, false, 999), (2, false, 999), (3, false, 999), (4, false, 999), (5, false, 999), (6, false, 999), (7, false, 999), (8, false, 999), (9, false, 999), (10, false, 999), (11, false, 999), (12, false, 999), (13, false, 999), (14, false, 999), (15, false, 999), (16, false, 999), (17, false, 999), (18, false, 999), (19, false, 999), (20, false, 999), (21, false, 999), (22, false, 999), (23, false, 999), (24, false, 999), (25, false, 999), (26, false, 999), (27, false, 999), (28, false, 999), (29, false, 999)] (by kernel_rfl) (by kernel_rfl) ?_
     iterate 4 (refine wpCan_read rfl rfl (fun K hK => ?_); go_simp; refine hK _ ?_; clear hK K)
     iterate 3 (first | (refine wpCan_no rfl rfl ?_; simp only [Act.put, List.setIfInBounds_toArray, List.set_cons_succ, List.set_cons_zero, List.getElem_toArray, List.getElem_cons_succ, List.getElem_cons_zero]) | (refine wpCan_yes rfl rfl (fun K hK => ?_); go_simp; refine hK _ ?_; clear hK K))
     iterate 2 (refine wpCan_read rfl rfl (fun K hK => ?_); go_simp; refine hK _ ?_; clear hK K)
     iterate 3 (first | (refine wpCan_no rfl rfl ?_; simp only [Act.put, List.setIfInBounds_toArray, List.set_cons_succ, List.set_cons_zero, List.getElem_toArray, List.getElem_cons_succ, List.getElem_cons_zero]) | (refine wpCan_yes rfl rfl (fun K hK => ?_); go_simp; refine hK _ ?_; clear hK K))
     iterate 2 (refine wpCan_read rfl rfl (fun K hK => ?_); go_simp; refine hK _ ?_; clear hK K)
     first | (refine wpCan_no rfl rfl ?_; simp only [Act.put, List.setIfInBounds_toArray, List.set_cons_succ, List.set_cons_zero, List.getElem_toArray, List.getElem_cons_succ, List.getElem_cons_zero]) | (refine wpCan_yes rfl rfl (fun K hK => ?_); go_simp; refine hK _ ?_; clear hK K)
     iterate 2 (refine wpCan_read rfl rfl (fun K hK => ?_); go_simp; refine hK _ ?_; clear hK K)
     iterate 8 (first | (refine wpCan_no rfl rfl ?_; simp only [Act.put, List.setIfInBounds_toArray, List.set_cons_succ, List.set_cons_zero, List.getElem_toArray, List.getElem_cons_succ, List.getElem_cons_zero]) | (refine wpCan_yes rfl rfl (fun K hK => ?_); go_simp; refine hK _ ?_; clear hK K))
     iterate 2 (refine wpCan_read rfl rfl (fun K hK => ?_); go_simp; refine hK _ ?_; clear hK K)
     first | (refine wpCan_no rfl rfl ?_; simp only [Act.put, List.setIfInBounds_toArray, List.set_cons_succ, List.set_cons_zero, List.getElem_toArray, List.getElem_cons_succ, List.getElem_cons_zero]) | (refine wpCan_yes rfl rfl (fun K hK => ?_); go_simp; refine hK _ ?_; clear hK K)
     iterate 2 (refine wpCan_read rfl rfl (fun K hK => ?_); go_simp; refine hK _ ?_; clear hK K)
     refine wpCan_nil ?_
     go_wp2_with fail
     go_ret
     exact ⟨by rw [HRR.out, HO.out]; rfl, HS6.out.drew.drop.drop⟩
  ·skip
   have HV := Lib.hid (HYES.out (.inr (.inl h)))
   rw [h] at x2
   clear h HYES HNO
   cases rb
   ·have HO := Lib.hid (show mayK ts x.c = false by rw [HV.out]; rfl)
    refine wp_region_canon [(0, false, 999), (1, false, 999), (2, false, 999), (3, false, 999), (4, false, 999), (5, false, 999), (6, false, 999), (7, false, 999), (8, false, 999), (9, false, 999), (10, false, 999), (11, false, 999), (12, false, 999), (13, false, 999), (14, false, 999), (15, false, 999), (16, false, 999), (17, false, 999), (18, false, 999), (19, false, 999), (20, false, 999), (21, false, 999), (22, false, 999), (23, false, 999), (24, false, 999), (25, false, 999), (26, false, 999), (27, false, 999), (28, false, 999), (29, false, 999)] (by kernel_rfl) (by kernel_rfl) ?_
    iterate 4 (refine wpCan_read rfl rfl (fun K hK => ?_); go_simp; refine hK _ ?_; clear hK K)
    iterate 3 (first | (refine wpCan_no rfl rfl ?_; simp only [Act.put, List.setIfInBounds_toArray, List.set_cons_succ, List.set_cons_zero, List.getElem_toArray, List.getElem_cons_succ, List.getElem_cons_zero]) | (refine wpCan_yes rfl rfl (fun K hK => ?_); go_simp; refine hK _ ?_; clear hK K))
    iterate 2 (refine wpCan_read rfl rfl (fun K hK => ?_); go_simp; refine hK _ ?_; clear hK K)
    iterate 3 (first | (refine wpCan_no rfl rfl ?_; simp only [Act.put, List.setIfInBounds_toArray, List.set_cons_succ, List.set_cons_zero, List.getElem_toArray, List.getElem_cons_succ, List.getElem_cons_zero]) | (refine wpCan_yes rfl rfl (fun K hK => ?_); go_simp; refine hK _ ?_; clear hK K))
    iterate 2 (refine wpCan_read rfl rfl (fun K hK => ?_); go_simp; refine hK _ ?_; clear hK K)
    first | (refine wpCan_no rfl rfl ?_; simp only [Act.put, List.setIfInBounds_toArray, List.set_cons_succ, List.set_cons_zero, List.getElem_toArray, List.getElem_cons_succ, List.getElem_cons_zero]) | (refine wpCan_yes rfl rfl (fun K hK => ?_); go_simp; refine hK _ ?_; clear hK K)
    iterate 2 (refine wpCan_read rfl rfl (fun K hK => ?_); go_simp; refine hK _ ?_; clear hK K)
    iterate 8 (first | (refine wpCan_no rfl rfl ?_; simp only [Act.put, List.setIfInBounds_toArray, List.set_cons_succ, List.set_cons_zero, List.getElem_toArray, List.getElem_cons_succ, List.getElem_cons_zero]) | (refine wpCan_yes rfl rfl (fun K hK => ?_); go_simp; refine hK _ ?_; clear hK K))
    iterate 2 (refine wpCan_read rfl rfl (fun K hK => ?_); go_simp; refine hK _ ?_; clear hK K)
    first | (refine wpCan_no rfl rfl ?_; simp only [Act.put, List.setIfInBounds_toArray, List.set_cons_succ, List.set_cons_zero, List.getElem_toArray, List.getElem_cons_succ, List.getElem_cons_zero]) | (refine wpCan_yes rfl rfl (fun K hK => ?_); go_simp; refine hK _ ?_; clear hK K)
    iterate 2 (refine wpCan_read rfl rfl (fun K hK => ?_); go_simp; refine hK _ ?_; clear hK K)
    refine wpCan_nil ?_
    go_wp2_with fail
    go_ret
    exact ⟨by rw [HRR.out, HO.out]; rfl, HS6.out.drew.drop.drop⟩
   ·by_cases hty : x.key.t = y
    ·have HO := Lib.hid (show mayK ts x.c = im by rw [HV.out, decide_eq_true hty]; rfl)
     subst hty
     refine wp_region_canon [(0, false, 999), (1, false, 999), (2, false, 999), (3, false, 999), (4, false, 999), (5, false, 999), (6, false, 999), (7, false, 999), (8, false, 999), (9, false, 999), (10, false, 999), (11, false, 999), (12, false, 999), (13, false, 999), (14, false, 999), (15, false, 999), (16, false, 999), (17, false, 999), (18, false, 999), (19, false, 999), (20, false, 999), (21, false, 999), (22, false, 999), (23, false, 999), (24, false, 999), (25, false, 999), (26, false, 999), (27, false, 999), (28, false, 999), (29, false, 999)] (by kernel_rfl) (by kernel_rfl) ?_
     iterate 4 (refine wpCan_read rfl rfl (fun K hK => ?_); go_simp; refine hK _ ?_; clear hK K)
     iterate 3 (first | (refine wpCan_no rfl rfl ?_; simp only [Act.put, List.setIfInBounds_toArray, List.set_cons_succ, List.set_cons_zero, List.getElem_toArray, List.getElem_cons_succ, List.getElem_cons_zero]) | (refine wpCan_yes rfl rfl (fun K hK => ?_); go_simp; refine hK _ ?_; clear hK K))
     iterate 2 (refine wpCan_read rfl rfl (fun K hK => ?_); go_simp; refine hK _ ?_; clear hK K)
     iterate 3 (first | (refine wpCan_no rfl rfl ?_; simp only [Act.put, List.setIfInBounds_toArray, List.set_cons_succ, List.set_cons_zero, List.getElem_toArray, List.getElem_cons_succ, List.getElem_cons_zero]) | (refine wpCan_yes rfl rfl (fun K hK => ?_); go_simp; refine hK _ ?_; clear hK K))
     iterate 2 (refine wpCan_read rfl rfl (fun K hK => ?_); go_simp; refine hK _ ?_; clear hK K)
     first | (refine wpCan_no rfl rfl ?_; simp only [Act.put, List.setIfInBounds_toArray, List.set_cons_succ, List.set_cons_zero, List.getElem_toArray, List.getElem_cons_succ, List.getElem_cons_zero]) | (refine wpCan_yes rfl rfl (fun K hK => ?_); go_simp; refine hK _ ?_; clear hK K)
     iterate 2 (refine wpCan_read rfl rfl (fun K hK => ?_); go_simp; refine hK _ ?_; clear hK K)
     iterate 8 (first | (refine wpCan_no rfl rfl ?_; simp only [Act.put, List.setIfInBounds_toArray, List.set_cons_succ, List.set_cons_zero, List.getElem_toArray, List.getElem_cons_succ, List.getElem_cons_zero]) | (refine wpCan_yes rfl rfl (fun K hK => ?_); go_simp; refine hK _ ?_; clear hK K))
     iterate 2 (refine wpCan_read rfl rfl (fun K hK => ?_); go_simp; refine hK _ ?_; clear hK K)
     first | (refine wpCan_no rfl rfl ?_; simp only [Act.put, List.setIfInBounds_toArray, List.set_cons_succ, List.set_cons_zero, List.getElem_toArray, List.getElem_cons_succ, List.getElem_cons_zero]) | (refine wpCan_yes rfl rfl (fun K hK => ?_); go_simp; refine hK _ ?_; clear hK K)
     iterate 2 (refine wpCan_read rfl rfl (fun K hK => ?_); go_simp; refine hK _ ?_; clear hK K)
     refine wpCan_nil ?_
     go_wp2_with fail
     go_ret
     exact ⟨by rw [HRR.out, HO.out]; rfl, HS6.out.drew.drop.drop⟩
    ·have HO := Lib.hid (show mayK ts x.c = false by rw [HV.out, decide_eq_false hty]; rfl)
     obtain rfl : y = !x.key.t := by cases y <;> cases h : x.key.t <;> simp_all
     clear hty
     refine wp_region_canon [(0, false, 999), (1, false, 999), (2, false, 999), (3, false, 999), (4, false, 999), (5, false, 999), (6, false, 999), (7, false, 999), (8, false, 999), (9, false, 999), (10, false, 999), (11, false, 999), (12, false, 999), (13, false, 999), (14, false, 999), (15, false, 999), (16, false, 999), (17, false, 999), (18, false, 999), (19, false, 999), (20, false, 999), (21, false, 999), (22, false, 999), (23, false, 999), (24, false, 999), (25, false, 999), (26, false, 999), (27, false, 999), (28, false, 999), (29, false, 999)] (by kernel_rfl) (by kernel_rfl) ?_
     iterate 4 (refine wpCan_read rfl rfl (fun K hK => ?_); go_simp; refine hK _ ?_; clear hK K)
     iterate 3 (first | (refine wpCan_no rfl rfl ?_; simp only [Act.put, List.setIfInBounds_toArray, List.set_cons_succ, List.set_cons_zero, List.getElem_toArray, List.getElem_cons_succ, List.getElem_cons_zero]) | (refine wpCan_yes rfl rfl (fun K hK => ?_); go_simp; refine hK _ ?_; clear hK K))
     iterate 2 (refine wpCan_read rfl rfl (fun K hK => ?_); go_simp; refine hK _ ?_; clear hK K)
     iterate 3 (first | (refine wpCan_no rfl rfl ?_; simp only [Act.put, List.setIfInBounds_toArray, List.set_cons_succ, List.set_cons_zero, List.getElem_toArray, List.getElem_cons_succ, List.getElem_cons_zero]) | (refine wpCan_yes rfl rfl (fun K hK => ?_); go_simp; refine hK _ ?_; clear hK K))
     iterate 2 (refine wpCan_read rfl rfl (fun K hK => ?_); go_simp; refine hK _ ?_; clear hK K)
     first | (refine wpCan_no rfl rfl ?_; simp only [Act.put, List.setIfInBounds_toArray, List.set_cons_succ, List.set_cons_zero, List.getElem_toArray, List.getElem_cons_succ, List.getElem_cons_zero]) | (refine wpCan_yes rfl rfl (fun K hK => ?_); go_simp; refine hK _ ?_; clear hK K)
     iterate 2 (refine wpCan_read rfl rfl (fun K hK => ?_); go_simp; refine hK _ ?_; clear hK K)
     iterate 8 (first | (refine wpCan_no rfl rfl ?_; simp only [Act.put, List.setIfInBounds_toArray, List.set_cons_succ, List.set_cons_zero, List.getElem_toArray, List.getElem_cons_succ, List.getElem_cons_zero]) | (refine wpCan_yes rfl rfl (fun K hK => ?_); go_simp; refine hK _ ?_; clear hK K))
     iterate 2 (refine wpCan_read rfl rfl (fun K hK => ?_); go_simp; refine hK _ ?_; clear hK K)
     first | (refine wpCan_no rfl rfl ?_; simp only [Act.put, List.setIfInBounds_toArray, List.set_cons_succ, List.set_cons_zero, List.getElem_toArray, List.getElem_cons_succ, List.getElem_cons_zero]) | (refine wpCan_yes rfl rfl (fun K hK => ?_); go_simp; refine hK _ ?_; clear hK K)
     iterate 2 (refine wpCan_read rfl rfl (fun K hK => ?_); go_simp; refine hK _ ?_; clear hK K)
     refine wpCan_nil ?_
     go_wp2_with fail
     go_ret
     exact ⟨by rw [HRR.out, HO.out]; rfl, HS6.out.drew.drop.drop⟩
  ·skip
   have HV := Lib.hid (HYES.out (.inr (.inr h)))
   rw [h] at x2
   clear h HYES HNO
   cases rb
   ·have HO := Lib.hid (show mayK ts x.c = false by rw [HV.out]; rfl)
    refine wp_region_canon [(0, false, 999), (1, false, 999), (2, false, 999), (3, false, 999), (4, false, 999), (5, false, 999), (6, false, 999), (7, false, 999), (8, false, 999), (9, false, 999), (10, false, 999), (11, false, 999), (12, false, 999), (13, false, 999), (14, false, 999), (15, false, 999), (16, false, 999), (17, false, 999), (18, false, 999), (19, false, 999), (20, false, 999), (21, false, 999), (22, false, 999), (23, false, 999), (24, false, 999), (25, false, 999), (26, false, 999), (27, false, 999), (28, false, 999), (29, false, 999)] (by kernel_rfl) (by kernel_rfl) ?_
    iterate 4 (refine wpCan_read rfl rfl (fun K hK => ?_); go_simp; refine hK _ ?_; clear hK K)
    iterate 3 (first | (refine wpCan_no rfl rfl ?_; simp only [Act.put, List.setIfInBounds_toArray, List.set_cons_succ, List.set_cons_zero, List.getElem_toArray, List.getElem_cons_succ, List.getElem_cons_zero]) | (refine wpCan_yes rfl rfl (fun K hK => ?_); go_simp; refine hK _ ?_; clear hK K))
    iterate 2 (refine wpCan_read rfl rfl (fun K hK => ?_); go_simp; refine hK _ ?_; clear hK K)
    iterate 3 (first | (refine wpCan_no rfl rfl ?_; simp only [Act.put, List.setIfInBounds_toArray, List.set_cons_succ, List.set_cons_zero, List.getElem_toArray, List.getElem_cons_succ, List.getElem_cons_zero]) | (refine wpCan_yes rfl rfl (fun K hK => ?_); go_simp; refine hK _ ?_; clear hK K))
    iterate 2 (refine wpCan_read rfl rfl (fun K hK => ?_); go_simp; refine hK _ ?_; clear hK K)
    first | (refine wpCan_no rfl rfl ?_; simp only [Act.put, List.setIfInBounds_toArray, List.set_cons_succ, List.set_cons_zero, List.getElem_toArray, List.getElem_cons_succ, List.getElem_cons_zero]) | (refine wpCan_yes rfl rfl (fun K hK => ?_); go_simp; refine hK _ ?_; clear hK K)
    iterate 2 (refine wpCan_read rfl rfl (fun K hK => ?_); go_simp; refine hK _ ?_; clear hK K)
    iterate 8 (first | (refine wpCan_no rfl rfl ?_; simp only [Act.put, List.setIfInBounds_toArray, List.set_cons_succ, List.set_cons_zero, List.getElem_toArray, List.getElem_cons_succ, List.getElem_cons_zero]) | (refine wpCan_yes rfl rfl (fun K hK => ?_); go_simp; refine hK _ ?_; clear hK K))
    iterate 2 (refine wpCan_read rfl rfl (fun K hK => ?_); go_simp; refine hK _ ?_; clear hK K)
    first | (refine wpCan_no rfl rfl ?_; simp only [Act.put, List.setIfInBounds_toArray, List.set_cons_succ, List.set_cons_zero, List.getElem_toArray, List.getElem_cons_succ, List.getElem_cons_zero]) | (refine wpCan_yes rfl rfl (fun K hK => ?_); go_simp; refine hK _ ?_; clear hK K)
    iterate 2 (refine wpCan_read rfl rfl (fun K hK => ?_); go_simp; refine hK _ ?_; clear hK K)
    refine wpCan_nil ?_
    go_wp2_with fail
    go_ret
    exact ⟨by rw [HRR.out, HO.out]; rfl, HS6.out.drew.drop.drop⟩
   ·by_cases hty : x.key.t = y
    ·have HO := Lib.hid (show mayK ts x.c = im by rw [HV.out, decide_eq_true hty]; rfl)
     subst hty
     refine wp_region_canon [(0, false, 999), (1, false, 999), (2, false, 999), (3, false, 999), (4, false, 999), (5, false, 999), (6, false, 999), (7, false, 999), (8, false, 999), (9, false, 999), (10, false, 999), (11, false, 999), (12, false, 999), (13, false, 999), (14, false, 999), (15, false, 999), (16, false, 999), (17, false, 999), (18, false, 999), (19, false, 999), (20, false, 999), (21, false, 999), (22, false, 999), (23, false, 999), (24, false, 999), (25, false, 999), (26, false, 999), (27, false, 999), (28, false, 999), (29, false, 999)] (by kernel_rfl) (by kernel_rfl) ?_
     iterate 4 (refine wpCan_read rfl rfl (fun K hK => ?_); go_simp; refine hK _ ?_; clear hK K)
     iterate 3 (first | (refine wpCan_no rfl rfl ?_; simp only [Act.put, List.setIfInBounds_toArray, List.set_cons_succ, List.set_cons_zero, List.getElem_toArray, List.getElem_cons_succ, List.getElem_cons_zero]) | (refine wpCan_yes rfl rfl (fun K hK => ?_); go_simp; refine hK _ ?_; clear hK K))
     iterate 2 (refine wpCan_read rfl rfl (fun K hK => ?_); go_simp; refine hK _ ?_; clear hK K)
     iterate 3 (first | (refine wpCan_no rfl rfl ?_; simp only [Act.put, List.setIfInBounds_toArray, List.set_cons_succ, List.set_cons_zero, List.getElem_toArray, List.getElem_cons_succ, List.getElem_cons_zero]) | (refine wpCan_yes rfl rfl (fun K hK => ?_); go_simp; refine hK _ ?_; clear hK K))
     iterate 2 (refine wpCan_read rfl rfl (fun K hK => ?_); go_simp; refine hK _ ?_; clear hK K)
     first | (refine wpCan_no rfl rfl ?_; simp only [Act.put, List.setIfInBounds_toArray, List.set_cons_succ, List.set_cons_zero, List.getElem_toArray, List.getElem_cons_succ, List.getElem_cons_zero]) | (refine wpCan_yes rfl rfl (fun K hK => ?_); go_simp; refine hK _ ?_; clear hK K)
     iterate 2 (refine wpCan_read rfl rfl (fun K hK => ?_); go_simp; refine hK _ ?_; clear hK K)
     iterate 8 (first | (refine wpCan_no rfl rfl ?_; simp only [Act.put, List.setIfInBounds_toArray, List.set_cons_succ, List.set_cons_zero, List.getElem_toArray, List.getElem_cons_succ, List.getElem_cons_zero]) | (refine wpCan_yes rfl rfl (fun K hK => ?_); go_simp; refine hK _ ?_; clear hK K))
     iterate 2 (refine wpCan_read rfl rfl (fun K hK => ?_); go_simp; refine hK _ ?_; clear hK K)
     first | (refine wpCan_no rfl rfl ?_; simp only [Act.put, List.setIfInBounds_toArray, List.set_cons_succ, List.set_cons_zero, List.getElem_toArray, List.getElem_cons_succ, List.getElem_cons_zero]) | (refine wpCan_yes rfl rfl (fun K hK => ?_); go_simp; refine hK _ ?_; clear hK K)
     iterate 2 (refine wpCan_read rfl rfl (fun K hK => ?_); go_simp; refine hK _ ?_; clear hK K)
     refine wpCan_nil ?_
     go_wp2_with fail
     go_ret
     exact ⟨by rw [HRR.out, HO.out]; rfl, HS6.out.drew.drop.drop⟩
    ·have HO := Lib.hid (show mayK ts x.c = false by rw [HV.out, decide_eq_false hty]; rfl)
     obtain rfl : y = !x.key.t := by cases y <;> cases h : x.key.t <;> simp_all
     clear hty
     refine wp_region_canon [(0, false, 999), (1, false, 999), (2, false, 999), (3, false, 999), (4, false, 999), (5, false, 999), (6, false, 999), (7, false, 999), (8, false, 999), (9, false, 999), (10, false, 999), (11, false, 999), (12, false, 999), (13, false, 999), (14, false, 999), (15, false, 999), (16, false, 999), (17, false, 999), (18, false, 999), (19, false, 999), (20, false, 999), (21, false, 999), (22, false, 999), (23, false, 999), (24, false, 999), (25, false, 999), (26, false, 999), (27, false, 999), (28, false, 999), (29, false, 999)] (by kernel_rfl) (by kernel_rfl) ?_
     iterate 4 (refine wpCan_read rfl rfl (fun K hK => ?_); go_simp; refine hK _ ?_; clear hK K)
     iterate 3 (first | (refine wpCan_no rfl rfl ?_; simp only [Act.put, List.setIfInBounds_toArray, List.set_cons_succ, List.set_cons_zero, List.getElem_toArray, List.getElem_cons_succ, List.getElem_cons_zero]) | (refine wpCan_yes rfl rfl (fun K hK => ?_); go_simp; refine hK _ ?_; clear hK K))
     iterate 2 (refine wpCan_read rfl rfl (fun K hK => ?_); go_simp; refine hK _ ?_; clear hK K)
     iterate 3 (first | (refine wpCan_no rfl rfl ?_; simp only [Act.put, List.setIfInBounds_toArray, List.set_cons_succ, List.set_cons_zero, List.getElem_toArray, List.getElem_cons_succ, List.getElem_cons_zero]) | (refine wpCan_yes rfl rfl (fun K hK => ?_); go_simp; refine hK _ ?_; clear hK K))
     iterate 2 (refine wpCan_read rfl rfl (fun K hK => ?_); go_simp; refine hK _ ?_; clear hK K)
     first | (refine wpCan_no rfl rfl ?_; simp only [Act.put, List.setIfInBounds_toArray, List.set_cons_succ, List.set_cons_zero, List.getElem_toArray, List.getElem_cons_succ, List.getElem_cons_zero]) | (refine wpCan_yes rfl rfl (fun K hK => ?_); go_simp; refine hK _ ?_; clear hK K)
     iterate 2 (refine wpCan_read rfl rfl (fun K hK => ?_); go_simp; refine hK _ ?_; clear hK K)
     iterate 8 (first | (refine wpCan_no rfl rfl ?_; simp only [Act.put, List.setIfInBounds_toArray, List.set_cons_succ, List.set_cons_zero, List.getElem_toArray, List.getElem_cons_succ, List.getElem_cons_zero]) | (refine wpCan_yes rfl rfl (fun K hK => ?_); go_simp; refine hK _ ?_; clear hK K))
     iterate 2 (refine wpCan_read rfl rfl (fun K hK => ?_); go_simp; refine hK _ ?_; clear hK K)
     first | (refine wpCan_no rfl rfl ?_; simp only [Act.put, List.setIfInBounds_toArray, List.set_cons_succ, List.set_cons_zero, List.getElem_toArray, List.getElem_cons_succ, List.getElem_cons_zero]) | (refine wpCan_yes rfl rfl (fun K hK => ?_); go_simp; refine hK _ ?_; clear hK K)
     iterate 2 (refine wpCan_read rfl rfl (fun K hK => ?_); go_simp; refine hK _ ?_; clear hK K)
     refine wpCan_nil ?_
     go_wp2_with fail
     go_ret
     exact ⟨by rw [HRR.out, HO.out]; rfl, HS6.out.drew.drop.drop⟩
  ·have HO := Lib.hid (HNO.out h)
   have e3 : (x.mode == 3) = false := by simp; omega
   have e5 : (x.mode == 5) = false := by simp; omega
   have e6 : (x.mode == 6) = false := by simp; omega
   clear h HYES HNO
   refine wp_region_canon [(0, false, 999), (1, false, 999), (2, false, 999), (3, false, 999), (4, false, 999), (5, false, 999), (6, false, 999), (7, false, 999), (8, false, 999), (9, false, 999), (10, false, 999), (11, false, 999), (12, false, 999), (13, false, 999), (14, false, 999), (15, false, 999), (16, false, 999), (17, false, 999), (18, false, 999), (19, false, 999), (20, false, 999), (21, false, 999), (22, false, 999), (23, false, 999), (24, false, 999), (25, false, 999), (26, false, 999), (27, false, 999), (28, false, 999), (29, false, 999)] (by kernel_rfl) (by kernel_rfl) ?_
   iterate 4 (refine wpCan_read rfl rfl (fun K hK => ?_); go_simp; refine hK _ ?_; clear hK K)
   iterate 3 (first | (refine wpCan_no rfl rfl ?_; simp only [Act.put, List.setIfInBounds_toArray, List.set_cons_succ, List.set_cons_zero, List.getElem_toArray, List.getElem_cons_succ, List.getElem_cons_zero]) | (refine wpCan_yes rfl rfl (fun K hK => ?_); go_simp; refine hK _ ?_; clear hK K))
   iterate 2 (refine wpCan_read rfl rfl (fun K hK => ?_); go_simp; refine hK _ ?_; clear hK K)
   iterate 3 (first | (refine wpCan_no rfl rfl ?_; simp only [Act.put, List.setIfInBounds_toArray, List.set_cons_succ, List.set_cons_zero, List.getElem_toArray, List.getElem_cons_succ, List.getElem_cons_zero]) | (refine wpCan_yes rfl rfl (fun K hK => ?_); go_simp; refine hK _ ?_; clear hK K))
   iterate 2 (refine wpCan_read rfl rfl (fun K hK => ?_); go_simp; refine hK _ ?_; clear hK K)
   first | (refine wpCan_no rfl rfl ?_; simp only [Act.put, List.setIfInBounds_toArray, List.set_cons_succ, List.set_cons_zero, List.getElem_toArray, List.getElem_cons_succ, List.getElem_cons_zero]) | (refine wpCan_yes rfl rfl (fun K hK => ?_); go_simp; refine hK _ ?_; clear hK K)
   iterate 2 (refine wpCan_read rfl rfl (fun K hK => ?_); go_simp; refine hK _ ?_; clear hK K)
   iterate 8 (first | (refine wpCan_no rfl rfl ?_; simp only [Act.put, List.setIfInBounds_toArray, List.set_cons_succ, List.set_cons_zero, List.getElem_toArray, List.getElem_cons_succ, List.getElem_cons_zero]) | (refine wpCan_yes rfl rfl (fun K hK => ?_); go_simp; refine hK _ ?_; clear hK K))
   iterate 2 (refine wpCan_read rfl rfl (fun K hK => ?_); go_simp; refine hK _ ?_; clear hK K)
   first | (refine wpCan_no rfl rfl ?_; simp only [Act.put, List.setIfInBounds_toArray, List.set_cons_succ, List.set_cons_zero, List.getElem_toArray, List.getElem_cons_succ, List.getElem_cons_zero]) | (refine wpCan_yes rfl rfl (fun K hK => ?_); go_simp; refine hK _ ?_; clear hK K)
   iterate 2 (refine wpCan_read rfl rfl (fun K hK => ?_); go_simp; refine hK _ ?_; clear hK K)
   refine wpCan_nil ?_
   go_wp2_with fail
   go_ret
   exact ⟨by rw [HRR.out, HO.out]; rfl, HS6.out.drew.drop.drop⟩
 ·rw [h] at x0
  have HKK := Lib.hid (show kindK c x.c = (decide (x.mode = 3) && predMay c x.pr.p) by unfold kindK; rw [if_neg (show ¬ x.c.kind = 1 by show ¬ x.kind = 1; omega), if_neg (show ¬ x.c.kind = 2 by show ¬ x.kind = 2; omega), if_pos (show x.c.kind = 3 from h)]; rfl)
  clear h
  have HPC := Lib.hid (rmay3_ok x.pr (HCR.out.rd HS4.out) HM.out (HX.out.rd HS4.out).2 HND.out)
  have HLP := Lib.hid (loadPr (boxClP (HS4.out.blk 1 rfl)))
  obtain ⟨pm, hpm⟩ : ∃ pm, predMay c x.pr.p = pm := ⟨_, rfl⟩
  rw [hpm] at HPC HKK
  clear hpm
  go_upto_region 16 with (first | (refine wpList_ldw rfl _ _ rfl _ _ rfl _ HLP.out ?_) | (go_at_call 153; refine HPC.out.mono ?_; rintro e5 w5 ⟨rfl, hk5⟩; have HS5 := Lib.hid (HS4.out.kept hk5); clear hk5 HPC HS4 HLP x0 x1 x2 t0 tf))
  obtain ⟨x0, x1, x2⟩ := boxTb (HS5.out.blk 1 rfl)
  by_cases hz : x.mode = 3
  ·have HO := Lib.hid (show mayK ts x.c = pm by rw [HKI.out, HKK.out, decide_eq_true hz]; rfl)
   rw [hz] at x2
   clear hz
   go_wp2_with fail
   go_ret
   exact ⟨by rw [HRR.out, HO.out]; rfl, HS5.out.drop.drop⟩
  ·have HO := Lib.hid (show mayK ts x.c = false by rw [HKI.out, HKK.out, decide_eq_false hz]; rfl)
   have hz1 : (x.mode == 3) = false := by simpa using hz
   clear hz
   go_wp2_with fail
   go_ret
   exact ⟨by rw [HRR.out, HO.out]; rfl, HS5.out.drop.drop⟩
 ·have HO := Lib.hid (show mayK ts x.c = false by rw [HKI.out]; unfold kindK; rw [if_neg (show ¬ x.c.kind = 1 from n1), if_neg (show ¬ x.c.kind = 2 from n2), if_neg (show ¬ x.c.kind = 3 from n3)])
  go_wp2_with fail
  go_ret
  exact ⟨by rw [HRR.out, HO.out]; rfl, HS4.out.drop.drop⟩
end Go.Proofs.YtgljdkjepdknnaaGreatDoor
