/- Whether a part about a column holds (pred.leaf). -/
import Derived.Test.YtgljdkjepdknnaaGreatDoorMT7
set_option maxHeartbeats 64000000
namespace Go.Proofs.YtgljdkjepdknnaaGreatDoor
open Go.ChangeShapes Go.WideShapes Go.ChangeAt Go.RowKit
set_option maxRecDepth 100000
set_option linter.unusedSimpArgs false
theorem gQ {w : World} {g o N cap h : Nat} {r : List Val} {x : Val} (hrd : Rd w 3 (.slice (some ⟨g, o, none⟩) N cap) N (r.flatMap Val.cells)) (hx : r[h]? = some x) :
  w.cell? ⟨g, o + h * 3, none⟩ = some (.bool x.t) ∧ w.cell? ⟨g, o + h * 3 + 1, none⟩ = some (.int .i64 x.n) ∧ w.cell? ⟨g, o + h * 3 + 2, none⟩ = some (.string x.s) := by
 have hlt := (List.getElem?_eq_some_iff.1 hx).1
 rcases hrd.2.2 with ⟨_, _, hv, _, _, _, hcell⟩
 cases hv
 rcases hcell with h0 | ⟨_, _, hg, hc⟩
 ·have := hrd.1
  rw [ez Val.len] at this
  omega
 cases hg
 have a0 := hc _ _ (bF Val.len r h _ hx 0 _ rfl)
 have a1 := hc _ _ (bF Val.len r h _ hx 1 _ rfl)
 have a2 := hc _ _ (bF Val.len r h _ hx 2 _ rfl)
 rw [Nat.add_zero] at a0
 rw [← Nat.add_assoc] at a1 a2
 exact ⟨a0, a1, a2⟩
theorem leaf_ok {w : World} (x : PredE) {rv : Value} {r : List Val} (hr : cO w rv r) : Calls Tryz.prog 189 #[.agg x.cells.toArray, rv] w fun e w' => e = .returned (.bool (dw x.op x.col x.v x.w r)) ∧ Kept (fun _ => False) w w' := by
 obtain ⟨W1, hW1, hk1, hb1⟩ : ∃ W, W = w.alloc (.cells x.cells.toArray tPr) ∧ Kept (fun _ => False) w W ∧ W.heap[w.heap.size]? = some (.cells x.cells.toArray tPr (0, 0)) := ⟨_, rfl, (Kept.refl _ _).alloc _, aB _ _⟩
 have s5 := BO (hr.kept hk1 (fun _ _ h => h))
 obtain ⟨_, hml, ra, rc, rfl, hnc, hcm, _⟩ := id hr
 unfold maxLen at hml hcm
 have sR := BO hW1
 have sW := BO hk1
 have sZ := BO hb1
 clear hr hW1 hk1 hb1
 by_cases c1 : x.col < 0
 ·have HR := BO (show dw x.op x.col x.v x.w r = false by unfold dw; rw [if_pos (.inl c1)])
  go_enter Tryz.func189, Tryz.ntmps189
  go_upto_region 1 with fail
  rw [← sR.out]
  clear sR
  generalize w.heap.size = b1 at sZ ⊢
  obtain ⟨x0, x1, x2, x3, x4, x5, x6, x7, x8⟩ := aK sZ.out
  go_wp2_with fail
  go_ret
  exact ⟨by rw [HR.out]; rfl, sW.out⟩
 by_cases c2 : (r.length : Int) ≤ x.col
 ·have HR := BO (show dw x.op x.col x.v x.w r = false by unfold dw; rw [if_pos (.inr c2)])
  have c2' : x.col ≥ (r.length : Int) := c2
  go_enter Tryz.func189, Tryz.ntmps189
  go_upto_region 1 with fail
  rw [← sR.out]
  clear sR
  generalize w.heap.size = b1 at sZ ⊢
  obtain ⟨x0, x1, x2, x3, x4, x5, x6, x7, x8⟩ := aK sZ.out
  go_wp2_with fail
  go_ret
  exact ⟨by rw [HR.out]; rfl, sW.out⟩
 obtain ⟨k, hk⟩ : ∃ k : Nat, x.col = (k : Int) := ⟨x.col.toNat, by omega⟩
 have hkl : k < r.length := by omega
 have hkl2 : (k : Int) < (r.length : Int) := by omega
 have hkn : ¬ ((k : Int) ≥ (r.length : Int)) := by omega
 obtain ⟨y, hy⟩ : ∃ y, r[k]? = some y := ⟨r[k], List.getElem?_eq_getElem hkl⟩
 obtain ⟨g, og, rfl⟩ : ∃ g o, ra = some ⟨g, o, none⟩ := by
  rcases s5.out.2.2 with ⟨_, _, hv, _, _, _, hc⟩
  cases hv
  rcases hc with h0 | ⟨g, o, h, _⟩
  ·omega
  ·exact ⟨g, o, h⟩
 have vB := BO hk
 have HY := BO hy
 obtain ⟨c, hc⟩ : ∃ c, dc y x.v = c := ⟨_, rfl⟩
 have yb := BO hc
 have uV := BO (show dw x.op x.col x.v x.w r = (if x.op = 3 then decide (c = 0) else if x.op = 4 then !decide (c = 0) else if x.op = 5 then decide (c < 0) else if x.op = 6 then decide (c ≤ 0) else if x.op = 7 then decide (0 < c) else if x.op = 8 then decide (0 ≤ c) else decide (0 ≤ c) && decide (dc y x.w ≤ 0)) by
  unfold dw
  rw [if_neg (by omega)]
  have : r.getD x.col.toNat default = y := by rw [hk, Int.toNat_natCast, List.getD_eq_getElem?_getD, hy]; rfl
  simp only [this, hc])
 clear c1 c2 hk hy hc hkl
 by_cases p3 : x.op = 3
 ·have HO := BO p3
  clear p3
  go_enter Tryz.func189, Tryz.ntmps189
  go_upto_region 1 with fail
  rw [← sR.out]
  clear sR
  generalize w.heap.size = b1 at sZ ⊢
  obtain ⟨x0, x1, x2, x3, x4, x5, x6, x7, x8⟩ := aK sZ.out
  rw [vB.out] at x1
  obtain ⟨y0, y1, y2⟩ := gQ s5.out HY.out
  go_upto_region 3 with fail
  have tF := BO (cW y x.v W1.drew)
  rw [yb.out] at tF
  refine af [(0, false, 7), (1, false, 7), (2, false, 7), (3, false, 7), (4, false, 7), (5, false, 7), (6, false, 7), (7, true, 0), (8, false, 999)] (by kernel_rfl) (by kernel_rfl) ?_
  iterate 7 (refine ae rfl rfl (fun K hK => ?_); go_simp; refine hK _ ?_; clear hK K)
  refine al rfl ?_
  refine aw rfl (fun K hK => ?_)
  go_simp
  refine tF.out.mono ?_
  rintro e2 w2 ⟨rfl, hk2⟩
  have s8 := BO (sW.out.drew.trans hk2 (fun _ h => h.elim))
  have s7 := BO ((hk2.block b1 (aI (by exact sZ.out : W1.drew.heap[b1]? = _)) (fun h => h)).trans sZ.out)
  have vG := BO (s5.out.drew.kept hk2 (fun _ _ h => h))
  clear hk2 tF x0 x1 x2 x3 x4 x5 x6 x7 x8 y0 y1 y2
  obtain ⟨x0, x1, x2, x3, x4, x5, x6, x7, x8⟩ := aK s7.out
  rw [vB.out] at x1
  refine hK _ _ ?_
  clear hK K
  refine wpList_nil ?_
  refine And.intro ?_ ?_
  ·go_simp
  refine ae rfl rfl (fun K hK => ?_); go_simp; refine hK _ ?_; clear hK K
  refine ap ?_
  rw [HO.out] at x0
  go_wp2_with fail
  go_ret
  exact ⟨by rw [uV.out, HO.out]; simp [bne, Int.not_lt, beq_iff_eq]; try rfl, s8.out⟩
 by_cases p4 : x.op = 4
 ·have HO := BO p4
  clear p3 p4
  go_enter Tryz.func189, Tryz.ntmps189
  go_upto_region 1 with fail
  rw [← sR.out]
  clear sR
  generalize w.heap.size = b1 at sZ ⊢
  obtain ⟨x0, x1, x2, x3, x4, x5, x6, x7, x8⟩ := aK sZ.out
  rw [vB.out] at x1
  obtain ⟨y0, y1, y2⟩ := gQ s5.out HY.out
  go_upto_region 3 with fail
  have tF := BO (cW y x.v W1.drew)
  rw [yb.out] at tF
  refine af [(0, false, 7), (1, false, 7), (2, false, 7), (3, false, 7), (4, false, 7), (5, false, 7), (6, false, 7), (7, true, 0), (8, false, 999)] (by kernel_rfl) (by kernel_rfl) ?_
  iterate 7 (refine ae rfl rfl (fun K hK => ?_); go_simp; refine hK _ ?_; clear hK K)
  refine al rfl ?_
  refine aw rfl (fun K hK => ?_)
  go_simp
  refine tF.out.mono ?_
  rintro e2 w2 ⟨rfl, hk2⟩
  have s8 := BO (sW.out.drew.trans hk2 (fun _ h => h.elim))
  have s7 := BO ((hk2.block b1 (aI (by exact sZ.out : W1.drew.heap[b1]? = _)) (fun h => h)).trans sZ.out)
  have vG := BO (s5.out.drew.kept hk2 (fun _ _ h => h))
  clear hk2 tF x0 x1 x2 x3 x4 x5 x6 x7 x8 y0 y1 y2
  obtain ⟨x0, x1, x2, x3, x4, x5, x6, x7, x8⟩ := aK s7.out
  rw [vB.out] at x1
  refine hK _ _ ?_
  clear hK K
  refine wpList_nil ?_
  refine And.intro ?_ ?_
  ·go_simp
  refine ae rfl rfl (fun K hK => ?_); go_simp; refine hK _ ?_; clear hK K
  refine ap ?_
  rw [HO.out] at x0
  go_wp2_with fail
  go_ret
  exact ⟨by rw [uV.out, HO.out]; simp [bne, Int.not_lt, beq_iff_eq]; try rfl, s8.out⟩
 by_cases p5 : x.op = 5
 ·have HO := BO p5
  clear p3 p4 p5
  go_enter Tryz.func189, Tryz.ntmps189
  go_upto_region 1 with fail
  rw [← sR.out]
  clear sR
  generalize w.heap.size = b1 at sZ ⊢
  obtain ⟨x0, x1, x2, x3, x4, x5, x6, x7, x8⟩ := aK sZ.out
  rw [vB.out] at x1
  obtain ⟨y0, y1, y2⟩ := gQ s5.out HY.out
  go_upto_region 3 with fail
  have tF := BO (cW y x.v W1.drew)
  rw [yb.out] at tF
  refine af [(0, false, 7), (1, false, 7), (2, false, 7), (3, false, 7), (4, false, 7), (5, false, 7), (6, false, 7), (7, true, 0), (8, false, 999)] (by kernel_rfl) (by kernel_rfl) ?_
  iterate 7 (refine ae rfl rfl (fun K hK => ?_); go_simp; refine hK _ ?_; clear hK K)
  refine al rfl ?_
  refine aw rfl (fun K hK => ?_)
  go_simp
  refine tF.out.mono ?_
  rintro e2 w2 ⟨rfl, hk2⟩
  have s8 := BO (sW.out.drew.trans hk2 (fun _ h => h.elim))
  have s7 := BO ((hk2.block b1 (aI (by exact sZ.out : W1.drew.heap[b1]? = _)) (fun h => h)).trans sZ.out)
  have vG := BO (s5.out.drew.kept hk2 (fun _ _ h => h))
  clear hk2 tF x0 x1 x2 x3 x4 x5 x6 x7 x8 y0 y1 y2
  obtain ⟨x0, x1, x2, x3, x4, x5, x6, x7, x8⟩ := aK s7.out
  rw [vB.out] at x1
  refine hK _ _ ?_
  clear hK K
  refine wpList_nil ?_
  refine And.intro ?_ ?_
  ·go_simp
  refine ae rfl rfl (fun K hK => ?_); go_simp; refine hK _ ?_; clear hK K
  refine ap ?_
  rw [HO.out] at x0
  go_wp2_with fail
  go_ret
  exact ⟨by rw [uV.out, HO.out]; simp [bne, Int.not_lt, beq_iff_eq]; try rfl, s8.out⟩
 by_cases p6 : x.op = 6
 ·have HO := BO p6
  clear p3 p4 p5 p6
  go_enter Tryz.func189, Tryz.ntmps189
  go_upto_region 1 with fail
  rw [← sR.out]
  clear sR
  generalize w.heap.size = b1 at sZ ⊢
  obtain ⟨x0, x1, x2, x3, x4, x5, x6, x7, x8⟩ := aK sZ.out
  rw [vB.out] at x1
  obtain ⟨y0, y1, y2⟩ := gQ s5.out HY.out
  go_upto_region 3 with fail
  have tF := BO (cW y x.v W1.drew)
  rw [yb.out] at tF
  refine af [(0, false, 7), (1, false, 7), (2, false, 7), (3, false, 7), (4, false, 7), (5, false, 7), (6, false, 7), (7, true, 0), (8, false, 999)] (by kernel_rfl) (by kernel_rfl) ?_
  iterate 7 (refine ae rfl rfl (fun K hK => ?_); go_simp; refine hK _ ?_; clear hK K)
  refine al rfl ?_
  refine aw rfl (fun K hK => ?_)
  go_simp
  refine tF.out.mono ?_
  rintro e2 w2 ⟨rfl, hk2⟩
  have s8 := BO (sW.out.drew.trans hk2 (fun _ h => h.elim))
  have s7 := BO ((hk2.block b1 (aI (by exact sZ.out : W1.drew.heap[b1]? = _)) (fun h => h)).trans sZ.out)
  have vG := BO (s5.out.drew.kept hk2 (fun _ _ h => h))
  clear hk2 tF x0 x1 x2 x3 x4 x5 x6 x7 x8 y0 y1 y2
  obtain ⟨x0, x1, x2, x3, x4, x5, x6, x7, x8⟩ := aK s7.out
  rw [vB.out] at x1
  refine hK _ _ ?_
  clear hK K
  refine wpList_nil ?_
  refine And.intro ?_ ?_
  ·go_simp
  refine ae rfl rfl (fun K hK => ?_); go_simp; refine hK _ ?_; clear hK K
  refine ap ?_
  rw [HO.out] at x0
  go_wp2_with fail
  go_ret
  exact ⟨by rw [uV.out, HO.out]; simp [bne, Int.not_lt, beq_iff_eq]; try rfl, s8.out⟩
 by_cases p7 : x.op = 7
 ·have HO := BO p7
  clear p3 p4 p5 p6 p7
  go_enter Tryz.func189, Tryz.ntmps189
  go_upto_region 1 with fail
  rw [← sR.out]
  clear sR
  generalize w.heap.size = b1 at sZ ⊢
  obtain ⟨x0, x1, x2, x3, x4, x5, x6, x7, x8⟩ := aK sZ.out
  rw [vB.out] at x1
  obtain ⟨y0, y1, y2⟩ := gQ s5.out HY.out
  go_upto_region 3 with fail
  have tF := BO (cW y x.v W1.drew)
  rw [yb.out] at tF
  refine af [(0, false, 7), (1, false, 7), (2, false, 7), (3, false, 7), (4, false, 7), (5, false, 7), (6, false, 7), (7, true, 0), (8, false, 999)] (by kernel_rfl) (by kernel_rfl) ?_
  iterate 7 (refine ae rfl rfl (fun K hK => ?_); go_simp; refine hK _ ?_; clear hK K)
  refine al rfl ?_
  refine aw rfl (fun K hK => ?_)
  go_simp
  refine tF.out.mono ?_
  rintro e2 w2 ⟨rfl, hk2⟩
  have s8 := BO (sW.out.drew.trans hk2 (fun _ h => h.elim))
  have s7 := BO ((hk2.block b1 (aI (by exact sZ.out : W1.drew.heap[b1]? = _)) (fun h => h)).trans sZ.out)
  have vG := BO (s5.out.drew.kept hk2 (fun _ _ h => h))
  clear hk2 tF x0 x1 x2 x3 x4 x5 x6 x7 x8 y0 y1 y2
  obtain ⟨x0, x1, x2, x3, x4, x5, x6, x7, x8⟩ := aK s7.out
  rw [vB.out] at x1
  refine hK _ _ ?_
  clear hK K
  refine wpList_nil ?_
  refine And.intro ?_ ?_
  ·go_simp
  refine ae rfl rfl (fun K hK => ?_); go_simp; refine hK _ ?_; clear hK K
  refine ap ?_
  rw [HO.out] at x0
  go_wp2_with fail
  go_ret
  exact ⟨by rw [uV.out, HO.out]; simp [bne, Int.not_lt, beq_iff_eq]; try rfl, s8.out⟩
 by_cases p8 : x.op = 8
 ·have HO := BO p8
  clear p3 p4 p5 p6 p7 p8
  go_enter Tryz.func189, Tryz.ntmps189
  go_upto_region 1 with fail
  rw [← sR.out]
  clear sR
  generalize w.heap.size = b1 at sZ ⊢
  obtain ⟨x0, x1, x2, x3, x4, x5, x6, x7, x8⟩ := aK sZ.out
  rw [vB.out] at x1
  obtain ⟨y0, y1, y2⟩ := gQ s5.out HY.out
  go_upto_region 3 with fail
  have tF := BO (cW y x.v W1.drew)
  rw [yb.out] at tF
  refine af [(0, false, 7), (1, false, 7), (2, false, 7), (3, false, 7), (4, false, 7), (5, false, 7), (6, false, 7), (7, true, 0), (8, false, 999)] (by kernel_rfl) (by kernel_rfl) ?_
  iterate 7 (refine ae rfl rfl (fun K hK => ?_); go_simp; refine hK _ ?_; clear hK K)
  refine al rfl ?_
  refine aw rfl (fun K hK => ?_)
  go_simp
  refine tF.out.mono ?_
  rintro e2 w2 ⟨rfl, hk2⟩
  have s8 := BO (sW.out.drew.trans hk2 (fun _ h => h.elim))
  have s7 := BO ((hk2.block b1 (aI (by exact sZ.out : W1.drew.heap[b1]? = _)) (fun h => h)).trans sZ.out)
  have vG := BO (s5.out.drew.kept hk2 (fun _ _ h => h))
  clear hk2 tF x0 x1 x2 x3 x4 x5 x6 x7 x8 y0 y1 y2
  obtain ⟨x0, x1, x2, x3, x4, x5, x6, x7, x8⟩ := aK s7.out
  rw [vB.out] at x1
  refine hK _ _ ?_
  clear hK K
  refine wpList_nil ?_
  refine And.intro ?_ ?_
  ·go_simp
  refine ae rfl rfl (fun K hK => ?_); go_simp; refine hK _ ?_; clear hK K
  refine ap ?_
  rw [HO.out] at x0
  go_wp2_with fail
  go_ret
  exact ⟨by rw [uV.out, HO.out]; simp [bne, Int.not_lt, beq_iff_eq]; try rfl, s8.out⟩
 have n3 : (x.op == 3) = false := by simpa using p3
 have n4 : (x.op == 4) = false := by simpa using p4
 have n5 : (x.op == 5) = false := by simpa using p5
 have n6 : (x.op == 6) = false := by simpa using p6
 have n7 : (x.op == 7) = false := by simpa using p7
 have n8 : (x.op == 8) = false := by simpa using p8
 have HR := BO (show dw x.op x.col x.v x.w r = (decide (0 ≤ c) && decide (dc y x.w ≤ 0)) by rw [uV.out, if_neg p3, if_neg p4, if_neg p5, if_neg p6, if_neg p7, if_neg p8])
 clear p3 p4 p5 p6 p7 p8
 by_cases hc0 : 0 ≤ c
 ·have hc1 : c ≥ 0 := hc0
  go_enter Tryz.func189, Tryz.ntmps189
  go_upto_region 1 with fail
  rw [← sR.out]
  clear sR
  generalize w.heap.size = b1 at sZ ⊢
  obtain ⟨x0, x1, x2, x3, x4, x5, x6, x7, x8⟩ := aK sZ.out
  rw [vB.out] at x1
  obtain ⟨y0, y1, y2⟩ := gQ s5.out HY.out
  go_upto_region 3 with fail
  have tF := BO (cW y x.v W1.drew)
  rw [yb.out] at tF
  refine af [(0, false, 7), (1, false, 7), (2, false, 7), (3, false, 7), (4, false, 7), (5, false, 7), (6, false, 7), (7, true, 0), (8, false, 999)] (by kernel_rfl) (by kernel_rfl) ?_
  iterate 7 (refine ae rfl rfl (fun K hK => ?_); go_simp; refine hK _ ?_; clear hK K)
  refine al rfl ?_
  refine aw rfl (fun K hK => ?_)
  go_simp
  refine tF.out.mono ?_
  rintro e2 w2 ⟨rfl, hk2⟩
  have s8 := BO (sW.out.drew.trans hk2 (fun _ h => h.elim))
  have s7 := BO ((hk2.block b1 (aI (by exact sZ.out : W1.drew.heap[b1]? = _)) (fun h => h)).trans sZ.out)
  have vG := BO (s5.out.drew.kept hk2 (fun _ _ h => h))
  clear hk2 tF x0 x1 x2 x3 x4 x5 x6 x7 x8 y0 y1 y2
  obtain ⟨x0, x1, x2, x3, x4, x5, x6, x7, x8⟩ := aK s7.out
  rw [vB.out] at x1
  refine hK _ _ ?_
  clear hK K
  refine wpList_nil ?_
  refine And.intro ?_ ?_
  ·go_simp
  refine ae rfl rfl (fun K hK => ?_); go_simp; refine hK _ ?_; clear hK K
  refine ap ?_
  obtain ⟨y0, y1, y2⟩ := gQ vG.out HY.out
  go_upto_region 17 with fail
  obtain ⟨d, hd⟩ : ∃ d, dc y x.w = d := ⟨_, rfl⟩
  have AS := BO hd
  have wR := BO (cW y x.w w2.drew)
  rw [AS.out] at wR
  clear hd
  refine af [(0, false, 10), (1, false, 10), (2, false, 10), (3, false, 10), (4, false, 10), (5, false, 10), (6, false, 10), (7, false, 10), (8, false, 10), (9, false, 10), (10, true, 0), (11, false, 999), (12, false, 999), (13, false, 999)] (by kernel_rfl) (by kernel_rfl) ?_
  iterate 3 (refine ae rfl rfl (fun K hK => ?_); go_simp; refine hK _ ?_; clear hK K)
  iterate 7 (first | (refine am rfl rfl ?_; simp only [Act.put, BP, BQ, BR, BS, BT, BU]) | (refine ak rfl rfl (fun K hK => ?_); go_simp; refine hK _ ?_; clear hK K))
  refine al rfl ?_
  refine aw rfl (fun K hK => ?_)
  go_simp
  refine wR.out.mono ?_
  rintro e3 w3 ⟨rfl, hk3⟩
  have tn := BO (s8.out.drew.trans hk3 (fun _ h => h.elim))
  clear hk3 wR
  refine hK _ _ ?_
  clear hK K
  refine wpList_nil ?_
  refine And.intro ?_ ?_
  ·go_simp
  first | (refine am rfl rfl ?_; simp only [Act.put, BP, BQ, BR, BS, BT, BU]) | (refine ak rfl rfl (fun K hK => ?_); go_simp; refine hK _ ?_; clear hK K)
  iterate 2 (refine ae rfl rfl (fun K hK => ?_); go_simp; refine hK _ ?_; clear hK K)
  refine ap ?_
  go_wp2_with fail
  go_ret
  exact ⟨by rw [HR.out, AS.out]; simp [hc0], tn.out⟩
 ·have hc1 : ¬ c ≥ 0 := hc0
  go_enter Tryz.func189, Tryz.ntmps189
  go_upto_region 1 with fail
  rw [← sR.out]
  clear sR
  generalize w.heap.size = b1 at sZ ⊢
  obtain ⟨x0, x1, x2, x3, x4, x5, x6, x7, x8⟩ := aK sZ.out
  rw [vB.out] at x1
  obtain ⟨y0, y1, y2⟩ := gQ s5.out HY.out
  go_upto_region 3 with fail
  have tF := BO (cW y x.v W1.drew)
  rw [yb.out] at tF
  refine af [(0, false, 7), (1, false, 7), (2, false, 7), (3, false, 7), (4, false, 7), (5, false, 7), (6, false, 7), (7, true, 0), (8, false, 999)] (by kernel_rfl) (by kernel_rfl) ?_
  iterate 7 (refine ae rfl rfl (fun K hK => ?_); go_simp; refine hK _ ?_; clear hK K)
  refine al rfl ?_
  refine aw rfl (fun K hK => ?_)
  go_simp
  refine tF.out.mono ?_
  rintro e2 w2 ⟨rfl, hk2⟩
  have s8 := BO (sW.out.drew.trans hk2 (fun _ h => h.elim))
  have s7 := BO ((hk2.block b1 (aI (by exact sZ.out : W1.drew.heap[b1]? = _)) (fun h => h)).trans sZ.out)
  have vG := BO (s5.out.drew.kept hk2 (fun _ _ h => h))
  clear hk2 tF x0 x1 x2 x3 x4 x5 x6 x7 x8 y0 y1 y2
  obtain ⟨x0, x1, x2, x3, x4, x5, x6, x7, x8⟩ := aK s7.out
  rw [vB.out] at x1
  refine hK _ _ ?_
  clear hK K
  refine wpList_nil ?_
  refine And.intro ?_ ?_
  ·go_simp
  refine ae rfl rfl (fun K hK => ?_); go_simp; refine hK _ ?_; clear hK K
  refine ap ?_
  go_upto_region 17 with fail
  refine af [(0, false, 10), (1, false, 10), (2, false, 10), (3, false, 10), (4, false, 10), (5, false, 10), (6, false, 10), (7, false, 10), (8, false, 10), (9, false, 10), (10, true, 0), (11, false, 999), (12, false, 999), (13, false, 999)] (by kernel_rfl) (by kernel_rfl) ?_
  iterate 3 (refine ae rfl rfl (fun K hK => ?_); go_simp; refine hK _ ?_; clear hK K)
  iterate 7 (first | (refine am rfl rfl ?_; simp only [Act.put, BP, BQ, BR, BS, BT, BU]) | (refine ak rfl rfl (fun K hK => ?_); go_simp; refine hK _ ?_; clear hK K))
  refine al rfl ?_
  refine bI rfl ?_
  simp only [Act.put, BP, BQ, BR]
  refine wpList_nil ?_
  refine And.intro ?_ ?_
  ·go_simp
  first | (refine am rfl rfl ?_; simp only [Act.put, BP, BQ, BR, BS, BT, BU]) | (refine ak rfl rfl (fun K hK => ?_); go_simp; refine hK _ ?_; clear hK K)
  iterate 2 (refine ae rfl rfl (fun K hK => ?_); go_simp; refine hK _ ?_; clear hK K)
  refine ap ?_
  go_wp2_with fail
  go_ret
  exact ⟨by rw [HR.out, decide_eq_false (Int.not_le.mpr hc0)]; rfl, s8.out.drew⟩
end Go.Proofs.YtgljdkjepdknnaaGreatDoor
