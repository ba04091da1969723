/- StoreTraces: the walk. (printed by genst29.py) -/
import Derived.Test.YtcbklkcpjldcjaaJ48
namespace Go.Proofs.Ytcbklkcpjldcjaa
open Go.ChangeShapes Go.WideShapes Go.ChangeAt Go.RowKit
set_option maxRecDepth 100000
set_option linter.unusedSimpArgs false

set_option maxHeartbeats 8000000 in
theorem traces_ok {w : World} {tv sv : Value} {cs : List (List Bool)} {xs : List ActS} {a : ActS} (hT : TabsD (heapOf w) tv cs) (hA : RdP (heapOf w) 18 sv xs.length (xs.flatMap ActS.cells)) (hO : ∀ a ∈ xs, ActOk (heapOf w) a) (ha : ActOk (heapOf w) a) :
    Calls Try.prog 4 #[tv, sv, a.v] w fun e w' => e = .returned (.bool true) ∧ Kept (fun _ => False) w w' := by
  have hs0 := (Sat.start w).alloc a.cells.toArray tAct
  dsimp only [ActS.v]
  obtain ⟨wa, hwa⟩ : ∃ wa, wa = w.alloc (.cells a.cells.toArray tAct) := ⟨_, rfl⟩
  rw [← hwa] at hs0
  dsimp only [ActS.cells, List.toArray] at hwa
  have HWA := Lib.hid hwa
  have HS0 := Lib.hid hs0
  have HT := Lib.hid hT
  have HAS := Lib.hid hA
  have HO := Lib.hid hO
  have HAR := Lib.hid ha.row
  clear hs0 hwa hT hA hO ha
  go_enter Try.func4, Try.ntmps4
  go_upto_region 1 with fail
  rw [← HWA.out]
  clear HWA
  generalize w.heap.size = ba at HS0 ⊢
  go_upto_region 4 with (go_at_call 9; refine (awake_ok _).mono ?_; rintro e1 w1 ⟨rfl, hk1⟩; have HS1 := Lib.hid (HS0.out.kept hk1); clear hk1 HS0)
  go_upto_region 5 with (go_at_call 17; refine (behind_ok 20 HT.out HAS.out HO.out HS1.out).mono ?_; intro e2 w2 hp2; obtain ⟨o, rfl, hp⟩ := behind_ptr hp2; have HP2 := Lib.hid hp; clear hp2 hp HS1 HT HAS HO)
  rcases HP2.out with ⟨rfl, hs2⟩ | ⟨s, A, rfl, hI, -, -, hs2⟩
  · have HS2 := Lib.hid hs2
    clear hs2 HP2
    go_wp2_with fail
    go_ret
    exact ⟨rfl, HS2.out.drop.end_ (PH.le.refl _)⟩
  have HS2 := Lib.hid hs2
  have HI := Lib.hid hI
  clear hs2 hI HP2
  obtain ⟨a0, a1, a2, a3, a4, a5, a6⟩ := ActS.at (HS2.out.blk 1 rfl)
  by_cases hr : (a.rn : Int) > 100
  · go_wp2_with fail
    go_ret
    exact ⟨rfl, HS2.out.drop.drop.end_ (PH.le.refl _)⟩
  generalize hM : (scanA A a.t spn0).length = M
  have HM := Lib.hid hM
  have hM40 : M ≤ 40 := by rw [← hM]; exact scan_len HI.out _ _
  have hlw : IntKind.i64.wrap ((M : Int) + 1) = (M : Int) + 1 := i64w _ (by omega) (by omega)
  clear hM
  go_upto_region 9 with (first | (go_at_call 13; refine (Used_ok HS2.out).mono ?_; rintro e3 w3 ⟨rfl, rfl⟩) | (go_at_call 15; refine (rows_ok a.t spn0 HI.out HS2.out).mono ?_; rintro e4 w4 ⟨v4, rfl, hs4⟩; obtain ⟨o4, c4, rfl⟩ := rows_shape hs4; rw [HM.out] at hs4; rw [HM.out]; have HS4 := Lib.hid hs4.swap; clear hs4 HS2 a0 a1 a2 a3 a4 a5 a6))
  obtain ⟨a0, a1, a2, a3, a4, a5, a6⟩ := ActS.at (HS4.out.blk 2 rfl)
  rcases traces_view HI.out a.t a.row with ⟨e, hz, hins, hI1⟩ | ⟨A1, n1, hins, hn0, hn1, hI1, hl1, hl2, hsc, htail⟩
  · have HINS := Lib.hid hins
    have HI1 := Lib.hid hI1
    clear hins hI1
    go_upto_region 10 with (go_at_call 11; refine (Insert_ok a.t HI.out (by omega) (fun W X h => HAR.out.rd h) HS4.out).mono ?_; rw [HINS.out]; rintro e5 w5 ⟨rfl, hs5⟩; have HS5 := Lib.hid hs5; clear hs5 HS4 a0 a1 a2 a3 a4 a5 a6)
    obtain ⟨a0, a1, a2, a3, a4, a5, a6⟩ := ActS.at (HS5.out.blk 2 rfl)
    go_wp2_with (first | (go_at_call 13; refine (Used_ok HS5.out).mono ?_; rintro e6 w6 ⟨rfl, rfl⟩) | (go_at_call 15; refine (rows_ok a.t spn0 HI1.out HS5.out).mono ?_; rintro e7 w7 ⟨v7, rfl, hs7⟩; have HS7 := Lib.hid hs7; clear hs7 HS5 a0 a1 a2 a3 a4 a5 a6) | (go_at_call 18; refine (rRows_ok (rowsP_rd HS7.out) (rowsP_rd (HS7.out.front 2 rfl))).mono ?_; rintro e8 w8 ⟨rfl, hk8⟩; have HS8 := Lib.hid (HS7.out.kept hk8); clear hk8))
    go_ret
    exact ⟨rfl, (HS8.out.drop.drop.drop.drop).end_ (PH.le.refl _)⟩
  have HINS := Lib.hid hins
  have HI1 := Lib.hid hI1
  have HQ := Lib.hid hl2
  have HSC := Lib.hid (show (scanA A1 a.t spn0).length = M + 1 by rw [hsc, HM.out])
  have hnw : IntKind.i64.wrap (n1 + 1) = n1 + 1 := i64w _ (by omega) (by omega)
  have hrn : a.rn = a.row.length := row_n HAR.out
  have hlen2 : 0 < a.row.length := by omega
  have hlen : (0 : Int) < (a.row.length : Int) := by omega
  rw [hrn] at HAR
  obtain ⟨rg, rog, hro⟩ := row_src (HAR.out.rd HS4.out) hl2 rfl
  rw [hro] at HAR
  have HRN := Lib.hid hrn
  have HRO := Lib.hid hro
  generalize hkk : keyOf a.row = k at *
  have HKK := Lib.hid hkk
  clear hins hI1 hl1 hl2 hsc hrn hro hkk
  go_upto_region 12 with (go_at_call 11; refine (Insert_ok a.t HI.out (by omega) (fun W X h => by rw [HRN.out, HRO.out]; exact HAR.out.rd h) HS4.out).mono ?_; rw [HINS.out]; rintro e5 w5 ⟨rfl, hs5⟩; have HS5 := Lib.hid hs5; clear hs5 HS4 a0 a1 a2 a3 a4 a5 a6)
  obtain ⟨a0, a1, a2, a3, a4, a5, a6⟩ := ActS.at (HS5.out.blk 2 rfl)
  rcases htail with hu | ⟨hu, f1, i2, A3, A4, A5, r1, i3, f3, i4, f4, i5, g5, i6, sc5⟩
  · go_wp2_with (first | (go_at_call 13; refine (Used_ok HS5.out).mono ?_; rintro e6 w6 ⟨rfl, rfl⟩) | (go_at_call 15; refine (rows_ok a.t spn0 HI1.out HS5.out).mono ?_; rintro e7 w7 ⟨v7, rfl, hs7⟩; obtain ⟨o7, c7, rfl⟩ := rows_shape hs7; rw [HSC.out]; have HS7 := Lib.hid hs7; clear hs7 HS5 a0 a1 a2 a3 a4 a5 a6))
    go_ret
    exact ⟨by simp, (HS7.out.drop.drop.drop.drop).end_ (PH.le.refl _)⟩
  have HF1 := Lib.hid f1
  have HI2 := Lib.hid i2
  have HR1 := Lib.hid r1
  have HI3 := Lib.hid i3
  have HF3 := Lib.hid f3
  have HI4 := Lib.hid i4
  have HF4 := Lib.hid f4
  have HI5 := Lib.hid i5
  have HG5 := Lib.hid g5
  have HI6 := Lib.hid i6
  have HSC5 := Lib.hid (show (scanA A5 a.t spn0).length = M + 1 by rw [sc5, HM.out])
  clear f1 i2 r1 i3 f3 i4 f4 i5 g5 i6 sc5
  rw [HRN.out, HRO.out] at a5
  obtain ⟨y0, y1, y2⟩ := key0_cells (HAR.out.rd HS5.out) HQ.out
  go_upto_region 14 with (go_at_call 13; refine (Used_ok HS5.out).mono ?_; rintro e6 w6 ⟨rfl, rfl⟩)
  refine wp_region_canon [(0, false, 7), (1, false, 7), (2, false, 7), (3, false, 7), (4, false, 7), (5, false, 7), (6, false, 7), (7, true, 0), (8, false, 999)] (by kernel_rfl) (by kernel_rfl) ?_
  iterate 7 (refine wpCan_read rfl rfl (fun K hK => ?_); go_simp; refine hK _ ?_; clear hK K)
  refine wpCan_eff rfl ?_
  refine wpList_do rfl (fun K hK => ?_)
  go_simp
  refine (Free_ok a.t k HI1.out (by omega) HS5.out.drew).mono ?_
  rw [HF1.out]
  rintro e6 w6 ⟨rfl, hs6⟩
  have HS6 := Lib.hid hs6
  clear hs6 HS5 a0 a1 a2 a3 a4 a5 a6 y0 y1 y2
  obtain ⟨a0, a1, a2, a3, a4, a5, a6⟩ := ActS.at (HS6.out.blk 2 rfl)
  rw [HRN.out, HRO.out] at a5
  obtain ⟨y0, y1, y2⟩ := key0_cells (HAR.out.rd HS6.out) HQ.out
  refine hK _ _ ?_
  clear hK K
  refine wpList_nil ?_
  refine And.intro ?_ ?_
  · go_simp
  iterate 1 (refine wpCan_read rfl rfl (fun K hK => ?_); go_simp; refine hK _ ?_; clear hK K)
  refine wpCan_nil ?_
  go_upto_region 15 with fail
  refine wp_region_canon [(0, false, 7), (1, false, 7), (2, false, 7), (3, false, 7), (4, false, 7), (5, false, 7), (6, false, 7), (7, true, 0), (8, false, 999)] (by kernel_rfl) (by kernel_rfl) ?_
  iterate 7 (refine wpCan_read rfl rfl (fun K hK => ?_); go_simp; refine hK _ ?_; clear hK K)
  refine wpCan_eff rfl ?_
  refine wpList_do rfl (fun K hK => ?_)
  go_simp
  refine (Remove_ok a.t k HI2.out (by omega) HS6.out.drew).mono ?_
  rw [HR1.out]
  rintro e7 w7 ⟨rfl, hs7⟩
  have HS7 := Lib.hid hs7
  clear hs7 HS6 a0 a1 a2 a3 a4 a5 a6 y0 y1 y2
  obtain ⟨a0, a1, a2, a3, a4, a5, a6⟩ := ActS.at (HS7.out.blk 2 rfl)
  rw [HRN.out, HRO.out] at a5
  obtain ⟨y0, y1, y2⟩ := key0_cells (HAR.out.rd HS7.out) HQ.out
  refine hK _ _ ?_
  clear hK K
  refine wpList_nil ?_
  refine And.intro ?_ ?_
  · go_simp
  iterate 1 (refine wpCan_read rfl rfl (fun K hK => ?_); go_simp; refine hK _ ?_; clear hK K)
  refine wpCan_nil ?_
  go_upto_region 16 with fail
  refine wp_region_canon [(0, false, 7), (1, false, 7), (2, false, 7), (3, false, 7), (4, false, 7), (5, false, 7), (6, false, 7), (7, true, 0), (8, false, 999)] (by kernel_rfl) (by kernel_rfl) ?_
  iterate 7 (refine wpCan_read rfl rfl (fun K hK => ?_); go_simp; refine hK _ ?_; clear hK K)
  refine wpCan_eff rfl ?_
  refine wpList_do rfl (fun K hK => ?_)
  go_simp
  refine (Free_ok a.t k HI3.out (by omega) HS7.out.drew).mono ?_
  rw [HF3.out]
  rintro e8 w8 ⟨rfl, hs8⟩
  have HS8 := Lib.hid hs8
  clear hs8 HS7 a0 a1 a2 a3 a4 a5 a6 y0 y1 y2
  obtain ⟨a0, a1, a2, a3, a4, a5, a6⟩ := ActS.at (HS8.out.blk 2 rfl)
  rw [HRN.out, HRO.out] at a5
  obtain ⟨y0, y1, y2⟩ := key0_cells (HAR.out.rd HS8.out) HQ.out
  refine hK _ _ ?_
  clear hK K
  refine wpList_nil ?_
  refine And.intro ?_ ?_
  · go_simp
  iterate 1 (refine wpCan_read rfl rfl (fun K hK => ?_); go_simp; refine hK _ ?_; clear hK K)
  refine wpCan_nil ?_
  go_upto_region 17 with fail
  refine wp_region_canon [(0, false, 7), (1, false, 7), (2, false, 7), (3, false, 7), (4, false, 7), (5, false, 7), (6, false, 7), (7, true, 0), (8, false, 999)] (by kernel_rfl) (by kernel_rfl) ?_
  iterate 7 (refine wpCan_read rfl rfl (fun K hK => ?_); go_simp; refine hK _ ?_; clear hK K)
  refine wpCan_eff rfl ?_
  refine wpList_do rfl (fun K hK => ?_)
  go_simp
  refine (Free_ok a.t k HI4.out (by omega) HS8.out.drew).mono ?_
  rw [HF4.out]
  rintro e9 w9 ⟨rfl, hs9⟩
  have HS9 := Lib.hid hs9
  clear hs9 HS8 a0 a1 a2 a3 a4 a5 a6 y0 y1 y2
  obtain ⟨a0, a1, a2, a3, a4, a5, a6⟩ := ActS.at (HS9.out.blk 2 rfl)
  rw [HRN.out, HRO.out] at a5
  obtain ⟨y0, y1, y2⟩ := key0_cells (HAR.out.rd HS9.out) HQ.out
  refine hK _ _ ?_
  clear hK K
  refine wpList_nil ?_
  refine And.intro ?_ ?_
  · go_simp
  iterate 1 (refine wpCan_read rfl rfl (fun K hK => ?_); go_simp; refine hK _ ?_; clear hK K)
  refine wpCan_nil ?_
  go_upto_region 19 with (go_at_call 11; refine (Insert_ok a.t HI5.out (by omega) (fun W X h => HAR.out.rd h) HS9.out).mono ?_; rw [HG5.out]; rintro e10 w10 ⟨rfl, hs10⟩; have HS10 := Lib.hid hs10; clear hs10 HS9 a0 a1 a2 a3 a4 a5 a6 y0 y1 y2)
  obtain ⟨a0, a1, a2, a3, a4, a5, a6⟩ := ActS.at (HS10.out.blk 2 rfl)
  go_wp2_with (go_at_call 15; refine (rows_ok a.t spn0 HI6.out HS10.out).mono ?_; rintro e11 w11 ⟨v11, rfl, hs11⟩; obtain ⟨o11, c11, rfl⟩ := rows_shape hs11; rw [HSC5.out]; have HS11 := Lib.hid hs11; clear hs11 HS10 a0 a1 a2 a3 a4 a5 a6)
  go_ret
  exact ⟨by simp, (HS11.out.drop.drop.drop.drop).end_ (PH.le.refl _)⟩
end Go.Proofs.Ytcbklkcpjldcjaa
