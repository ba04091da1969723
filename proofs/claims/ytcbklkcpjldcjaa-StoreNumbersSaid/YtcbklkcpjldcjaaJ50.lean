/- StoreNumbers: the walk. (printed by genst30.py) -/
import Derived.Test.YtcbklkcpjldcjaaJ48
namespace Go.Proofs.Ytcbklkcpjldcjaa
open Go.ChangeShapes Go.WideShapes Go.ChangeAt Go.RowKit
set_option maxRecDepth 100000
set_option linter.unusedSimpArgs false

theorem numbers_view {A : StM} (hI : StI 60 A) (t : Int) (r : List Val) :
    (∃ e, (e == (0 : Int)) = false ∧ A.ins t r = (A, 0, e)) ∨ ∃ (A1 : StM) (n1 : Int), A.ins t r = (A1, n1, 0) ∧ 1 ≤ n1 ∧ n1 ≤ 100 ∧ StI 61 A1 ∧ 1 ≤ r.length ∧ r[0]? = some (keyOf r) ∧
      ∃ (A2 A3 A4 : StM) (e3 : Int), A1.rep t r = (A2, 0) ∧ StI 62 A2 ∧ gotM A2 t (keyOf r) = true ∧ gnum A2 t (keyOf r) = n1 ∧ A2.rmv t (keyOf r) = (A3, e3) ∧ StI 63 A3 ∧ A3.ins t r = (A4, n1 + 1, 0) ∧ StI 64 A4 ∧ gotM A4 t (keyOf r) = true ∧ gnum A4 t (keyOf r) = n1 + 1 := by
  rcases traces_view hI t r with ⟨e, h1, h2, _⟩ | ⟨A1, n1, hins, h0, h1, i1, _, _, _, _⟩
  · exact .inl ⟨e, h1, h2⟩
  · right
    obtain ⟨g1, g2, g3, g4, g5, g6, g7, g8, g9⟩ := numbers_law hI t r (by rw [hins])
    rw [hins] at g3 g4 g5 g6 g7 g8 g9
    dsimp only at g3 g4 g5 g6 g7 g8 g9
    have i2 := i1.rep t r
    generalize hX : A1.rep t r = X at *
    obtain ⟨A2, e2⟩ := X
    dsimp only at *
    subst g4
    have i3 := i2.rmv t (keyOf r)
    generalize hY : A2.rmv t (keyOf r) = Y at *
    obtain ⟨A3, e3⟩ := Y
    dsimp only at *
    have i4 := i3.ins t r
    generalize hZ : A3.ins t r = Z at *
    obtain ⟨A4, n4, e4⟩ := Z
    dsimp only at *
    obtain ⟨rfl, rfl⟩ := Prod.mk.inj g7
    exact ⟨A1, n1, hins, g3, h1, i1, g1, g2, A2, A3, A4, e3, hX, i2, g5, g6, hY, i3, hZ, i4, g8, g9⟩

set_option maxHeartbeats 8000000 in
theorem numbers_ok {w : World} {tv sv : Value} {cs : List (List Bool)} {xs : List ActS} {a : ActS} (hT : TabsD (heapOf w) tv cs) (hA : RdP (heapOf w) 18 sv xs.length (xs.flatMap ActS.cells)) (hO : ∀ a ∈ xs, ActOk (heapOf w) a) (ha : ActOk (heapOf w) a) :
    Calls Try.prog 8 #[tv, sv, a.v] w fun e w' => e = .returned (.bool true) ∧ Kept (fun _ => False) w w' := by
  have hs0 := (Sat.start w).alloc a.cells.toArray tAct
  dsimp only [ActS.v]
  obtain ⟨wa, hwa⟩ : ∃ wa, wa = w.alloc (.cells a.cells.toArray tAct) := ⟨_, rfl⟩
  rw [← hwa] at hs0
  dsimp only [ActS.cells, List.toArray] at hwa
  have HWA := Lib.hid hwa
  have HS0 := Lib.hid hs0
  have HT := Lib.hid hT
  have HAS := Lib.hid hA
  have HO := Lib.hid hO
  have HAR := Lib.hid ha.row
  clear hs0 hwa hT hA hO ha
  go_enter Try.func8, Try.ntmps8
  go_upto_region 1 with fail
  rw [← HWA.out]
  clear HWA
  generalize w.heap.size = ba at HS0 ⊢
  go_upto_region 4 with (go_at_call 9; refine (awake_ok _).mono ?_; rintro e1 w1 ⟨rfl, hk1⟩; have HS1 := Lib.hid (HS0.out.kept hk1); clear hk1 HS0)
  go_upto_region 5 with (go_at_call 17; refine (behind_ok 30 HT.out HAS.out HO.out HS1.out).mono ?_; intro e2 w2 hp2; obtain ⟨o, rfl, hp⟩ := behind_ptr hp2; have HP2 := Lib.hid hp; clear hp2 hp HS1 HT HAS HO)
  rcases HP2.out with ⟨rfl, hs2⟩ | ⟨s, A, rfl, hI, -, -, hs2⟩
  · have HS2 := Lib.hid hs2
    clear hs2 HP2
    go_wp2_with fail
    go_ret
    exact ⟨rfl, HS2.out.drop.end_ (PH.le.refl _)⟩
  have HS2 := Lib.hid hs2
  have HI := Lib.hid hI
  clear hs2 hI HP2
  obtain ⟨a0, a1, a2, a3, a4, a5, a6⟩ := ActS.at (HS2.out.blk 1 rfl)
  by_cases hr : (a.rn : Int) > 100
  · go_wp2_with fail
    go_ret
    exact ⟨rfl, HS2.out.drop.drop.end_ (PH.le.refl _)⟩
  rcases numbers_view HI.out a.t a.row with ⟨e, hz, hins⟩ | ⟨A1, n1, hins, hn0, hn1, hI1, hl1, hl2, A2, A3, A4, e3, r1, i2, g2, u2, m3, i3, g4, i4, q4, u4⟩
  · have HINS := Lib.hid hins
    clear hins
    go_wp2_with (go_at_call 11; refine (Insert_ok a.t HI.out (by omega) (fun W X h => HAR.out.rd h) HS2.out).mono ?_; rw [HINS.out]; rintro e5 w5 ⟨rfl, hs5⟩; have HS5 := Lib.hid hs5; clear hs5 HS2 a0 a1 a2 a3 a4 a5 a6)
    go_ret
    exact ⟨rfl, (HS5.out.drop.drop).end_ (PH.le.refl _)⟩
  have HINS := Lib.hid hins
  have HI1 := Lib.hid hI1
  have HQ := Lib.hid hl2
  have hnw : IntKind.i64.wrap (n1 + 1) = n1 + 1 := i64w _ (by omega) (by omega)
  have hrn : a.rn = a.row.length := row_n HAR.out
  have hlen2 : 0 < a.row.length := by omega
  have hlen : (0 : Int) < (a.row.length : Int) := by omega
  rw [hrn] at HAR
  obtain ⟨rg, rog, hro⟩ := row_src (HAR.out.rd HS2.out) hl2 rfl
  rw [hro] at HAR
  have HRN := Lib.hid hrn
  have HRO := Lib.hid hro
  have HAR' := Lib.hid (show RowD (heapOf w) (.slice a.ro a.rn a.rc) a.row by rw [hrn, hro]; exact HAR.out)
  generalize hkk : keyOf a.row = k at *
  have R1 := Lib.hid r1
  have I2 := Lib.hid i2
  have G2 := Lib.hid g2
  have U2 := Lib.hid u2
  have M3 := Lib.hid m3
  have I3 := Lib.hid i3
  have G4 := Lib.hid g4
  have I4 := Lib.hid i4
  have Q4 := Lib.hid q4
  have U4 := Lib.hid u4
  clear hins hI1 hl1 hl2 hrn hro hkk r1 i2 g2 u2 m3 i3 g4 i4 q4 u4
  go_upto_region 10 with (go_at_call 11; refine (Insert_ok a.t HI.out (by omega) (fun W X h => HAR'.out.rd h) HS2.out).mono ?_; rw [HINS.out]; rintro e5 w5 ⟨rfl, hs5⟩; have HS5 := Lib.hid hs5; clear hs5 HS2 a0 a1 a2 a3 a4 a5 a6)
  obtain ⟨a0, a1, a2, a3, a4, a5, a6⟩ := ActS.at (HS5.out.blk 1 rfl)
  go_upto_region 11 with (go_at_call 26; refine (Replace_ok a.t HI1.out (by omega) (fun W X h => HAR'.out.rd h) HS5.out).mono ?_; rw [R1.out]; rintro e6 w6 ⟨rfl, hs6⟩; have HS6 := Lib.hid hs6; clear hs6 HS5 a0 a1 a2 a3 a4 a5 a6)
  obtain ⟨a0, a1, a2, a3, a4, a5, a6⟩ := ActS.at (HS6.out.blk 1 rfl)
  rw [HRN.out, HRO.out] at a5
  obtain ⟨y0, y1, y2⟩ := key0_cells (HAR.out.rd HS6.out) HQ.out
  refine wp_region_canon [(0, false, 7), (1, false, 7), (2, false, 7), (3, false, 7), (4, false, 7), (5, false, 7), (6, false, 7), (7, true, 0), (8, false, 999), (9, false, 999), (10, false, 999), (11, false, 999), (12, false, 999), (13, false, 999), (14, false, 999)] (by kernel_rfl) (by kernel_rfl) ?_
  iterate 7 (refine wpCan_read rfl rfl (fun K hK => ?_); go_simp; refine hK _ ?_; clear hK K)
  refine wpCan_eff rfl ?_
  refine wpList_do rfl (fun K hK => ?_)
  go_simp
  refine (Get_okB a.t k I2.out HS6.out.drew).mono ?_
  rw [G2.out, U2.out]
  rintro e7 w7 ⟨v7, rfl, hs7⟩
  have HS7 := Lib.hid hs7.drop
  clear hs7 HS6 a0 a1 a2 a3 a4 a5 a6 y0 y1 y2
  obtain ⟨a0, a1, a2, a3, a4, a5, a6⟩ := ActS.at (HS7.out.blk 1 rfl)
  rw [HRN.out, HRO.out] at a5
  obtain ⟨y0, y1, y2⟩ := key0_cells (HAR.out.rd HS7.out) HQ.out
  refine hK _ _ ?_
  clear hK K
  refine wpList_nil ?_
  refine And.intro ?_ ?_
  · go_simp
  iterate 7 (refine wpCan_read rfl rfl (fun K hK => ?_); go_simp; refine hK _ ?_; clear hK K)
  refine wpCan_nil ?_
  go_upto_region 12 with fail
  refine wp_region_canon [(0, false, 7), (1, false, 7), (2, false, 7), (3, false, 7), (4, false, 7), (5, false, 7), (6, false, 7), (7, true, 0)] (by kernel_rfl) (by kernel_rfl) ?_
  iterate 7 (refine wpCan_read rfl rfl (fun K hK => ?_); go_simp; refine hK _ ?_; clear hK K)
  refine wpCan_eff rfl ?_
  refine wpList_do rfl (fun K hK => ?_)
  go_simp
  refine (Remove_ok a.t k I2.out (by omega) HS7.out.drew).mono ?_
  rw [M3.out]
  rintro e8 w8 ⟨rfl, hs8⟩
  have HS8 := Lib.hid hs8
  clear hs8 HS7 a0 a1 a2 a3 a4 a5 a6 y0 y1 y2
  obtain ⟨a0, a1, a2, a3, a4, a5, a6⟩ := ActS.at (HS8.out.blk 1 rfl)
  refine hK _ _ ?_
  clear hK K
  refine wpList_nil ?_
  refine And.intro ?_ ?_
  · go_simp
  refine wpCan_nil ?_
  go_upto_region 14 with (go_at_call 11; refine (Insert_ok a.t I3.out (by omega) (fun W X h => HAR'.out.rd h) HS8.out).mono ?_; rw [G4.out]; rintro e9 w9 ⟨rfl, hs9⟩; have HS9 := Lib.hid hs9; clear hs9 HS8 a0 a1 a2 a3 a4 a5 a6)
  obtain ⟨a0, a1, a2, a3, a4, a5, a6⟩ := ActS.at (HS9.out.blk 1 rfl)
  rw [HRN.out, HRO.out] at a5
  obtain ⟨y0, y1, y2⟩ := key0_cells (HAR.out.rd HS9.out) HQ.out
  refine wp_region_canon [(0, false, 7), (1, false, 7), (2, false, 7), (3, false, 7), (4, false, 7), (5, false, 7), (6, false, 7), (7, true, 0), (8, false, 999), (9, false, 999), (10, false, 999), (11, false, 999), (12, false, 999), (13, false, 999), (14, false, 999)] (by kernel_rfl) (by kernel_rfl) ?_
  iterate 7 (refine wpCan_read rfl rfl (fun K hK => ?_); go_simp; refine hK _ ?_; clear hK K)
  refine wpCan_eff rfl ?_
  refine wpList_do rfl (fun K hK => ?_)
  go_simp
  refine (Get_okB a.t k I4.out HS9.out.drew).mono ?_
  rw [Q4.out, U4.out]
  rintro e10 w10 ⟨v10, rfl, hs10⟩
  have HS10 := Lib.hid hs10.drop
  clear hs10 HS9 a0 a1 a2 a3 a4 a5 a6 y0 y1 y2
  refine hK _ _ ?_
  clear hK K
  refine wpList_nil ?_
  refine And.intro ?_ ?_
  · go_simp
  iterate 7 (refine wpCan_read rfl rfl (fun K hK => ?_); go_simp; refine hK _ ?_; clear hK K)
  refine wpCan_nil ?_
  have hge : n1 ≥ 1 := hn0
  go_wp2_with fail
  go_ret
  exact ⟨by simp, (HS10.out.drop.drop).end_ (PH.le.refl _)⟩
end Go.Proofs.Ytcbklkcpjldcjaa
