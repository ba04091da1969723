/- StoreRoom: the walk. (printed by genst31.py) -/
import Derived.Test.YtcbklkcpjldcjaaJ51
namespace Go.Proofs.Ytcbklkcpjldcjaa
open Go.ChangeShapes Go.WideShapes Go.ChangeAt Go.RowKit
set_option maxRecDepth 100000
set_option linter.unusedSimpArgs false

set_option maxHeartbeats 16000000 in
theorem room_ok {w : World} {tv sv : Value} {cs : List (List Bool)} {xs : List ActS} (room : Int) (hT : TabsD (heapOf w) tv cs) (hA : RdP (heapOf w) 18 sv xs.length (xs.flatMap ActS.cells)) (hO : ∀ a ∈ xs, ActOk (heapOf w) a) :
    Calls Try.prog 6 #[tv, .int .i64 room, sv] w fun e w' => e = .returned (.bool true) ∧ Kept (fun _ => False) w w' := by
  obtain ⟨ta, tc, rfl⟩ := hT.shape
  have HS0 := Lib.hid (Sat.start w)
  have HT := Lib.hid hT
  have HAS := Lib.hid hA
  have HO := Lib.hid hO
  clear hT hA hO
  go_enter Try.func6, Try.ntmps6
  go_upto_region 4 with (go_at_call 9; refine (awake_ok _).mono ?_; rintro e1 w1 ⟨rfl, hk1⟩; have HS1 := Lib.hid (HS0.out.kept hk1); clear hk1 HS0)
  go_upto_region 5 with (go_at_call 17; refine (behind_ok room HT.out HAS.out HO.out HS1.out).mono ?_; intro e2 w2 hp2; obtain ⟨o, rfl, hp⟩ := behind_ptr hp2; have HP2 := Lib.hid hp; clear hp2 hp HS1 HT HAS HO)
  rcases HP2.out with ⟨rfl, hs2⟩ | ⟨s, A, rfl, hI, hcols, hroom, hs2⟩
  · have HS2 := Lib.hid hs2
    clear hs2 HP2
    go_wp2_with fail
    go_ret
    exact ⟨rfl, HS2.out.end_ (PH.le.refl _)⟩
  subst hcols hroom
  have HB := Lib.hid (bare_of hs2)
  have HS2 := Lib.hid hs2
  have HI := Lib.hid hI
  have u1 : ¬ (A.used < 0) := by rw [hI.used]; omega
  have u2 : ¬ (A.used > A.room) := by have := hI.full; omega
  have hc3 : A.cols.length ≤ 3 := hI.good.some_.2
  have u3 : A.used ≤ 40 := by have := hI.full; have := hI.room; omega
  obtain ⟨N, hN⟩ : ∃ N, A.cols.length = N := ⟨_, rfl⟩
  have HN := Lib.hid hN
  have HTL := Lib.hid (show A.tabs.length = N by rw [hI.len, hN])
  rw [hN] at hc3 ⊢
  clear hs2 hI HP2 hN
  go_upto_region 8 with (go_at_call 13; refine (Used_ok HS2.out).mono ?_; rintro e3 w3 ⟨rfl, rfl⟩)
  go_wp2_with fail
  go_loopw [10, 11] (fun many t wr => ∃ (j n : Nat), t = .int .i64 j ∧ j ≤ N ∧ many = .int .i64 (((A.tabs.take j).map cnt).sum : Nat) ∧ n ≤ 60 + 80 * j ∧ StI n A ∧ Sat w (heapOf w) wr [storeB s n A]) (fun _ t _ => N - (intOf t).toNat)
  case atStart => exact ⟨0, 60, rfl, by omega, rfl, by omega, HI.out, HS2.out⟩
  case round =>
    obtain ⟨j, n, rfl, hj, rfl, hn, hI, hs⟩ := hrel
    have HI := Lib.hid hI
    have HS := Lib.hid hs
    clear hI hs HS2
    by_cases hlt : j < N
    · have hi : (j : Int) < (N : Int) := by omega
      have hjc : j < A.cols.length := by rw [HN.out]; exact hlt
      obtain ⟨m, hm⟩ : ∃ m, A.tabs[j]? = some m := ⟨A.tabs[j]'(by rw [HTL.out]; exact hlt), List.getElem?_eq_getElem _⟩
      have HM := Lib.hid hm
      generalize hM : (scanA A (j : Int) spn0).length = M
      have HMM := Lib.hid hM
      have hM40 : M ≤ 40 := by rw [← hM]; exact scan_len HI.out _ _
      have hcm : cnt m = M := by rw [← hM, scan_cnt, (tab_at hjc hm).2]
      have HSU := Lib.hid (sum_take_succ hm)
      have hle := sum_take_le A.tabs (j + 1)
      have hle2 := cnt_sum A.tabs
      have hus := HI.out.used
      rw [sum_take_succ hm, hcm] at hle
      generalize hq : ((A.tabs.take j).map cnt).sum = q at *
      have HQ := Lib.hid hq
      have hqw : IntKind.i64.wrap ((q : Int) + (M : Int)) = ((q + M : Nat) : Int) := by rw [i64w _ (by omega) (by omega)]; omega
      have HCM := Lib.hid hcm
      clear hm hM hcm hle hle2 hus hq
      go_upto_region 15 with (go_at_call 15; refine (rows_ok (j : Int) spn0 HI.out HS.out).mono ?_; rintro e4 w4 ⟨v4, rfl, hs4⟩; obtain ⟨o4, c4, rfl⟩ := rows_shape hs4; rw [HMM.out] at hs4; rw [HMM.out]; have HS4 := Lib.hid hs4; clear hs4 HS)
      obtain ⟨es, hes, hs5⟩ := Sat.open_ex HS4.out
      have hel : es.length = M := by rw [← HMM.out, ← hes, List.length_map]
      have hs5 : Sat w (heapOf w) w4 [storeB s n A, ownS tR 1 (.slice o4 M c4) M (es.map RowE.v), group (es.map rowP)] := by
        have := Sat.front hs5 2 rfl
        rw [hel] at this
        exact this
      have HES := Lib.hid hes
      have HEL := Lib.hid hel
      have HS5 := Lib.hid hs5
      clear hes hel hs5 HS4
      go_wp2_with fail
      go_loopw [13] (fun i wr2 => ∃ (j2 n2 : Nat), i = .int .i64 j2 ∧ j2 ≤ M ∧ n2 ≤ n + 2 * j2 ∧ StI n2 A ∧ Sat w (heapOf w) wr2 [storeB s n2 A, ownS tR 1 (.slice o4 M c4) M (es.map RowE.v), group (es.map rowP)]) (fun i _ => M - (intOf i).toNat)
      case atStart => exact ⟨0, n, rfl, by omega, by omega, HI.out, HS5.out⟩
      case round =>
        obtain ⟨j2, n2, rfl, hj2, hn2, hI2, hs6⟩ := hrel
        have HI2 := Lib.hid hI2
        have HS6 := Lib.hid hs6
        clear hI2 hs6 HS5
        by_cases hlt2 : j2 < M
        · have hi2 : (j2 : Int) < (M : Int) := by omega
          obtain ⟨x, hx⟩ : ∃ x, es[j2]? = some x := ⟨es[j2]'(by rw [HEL.out]; exact hlt2), List.getElem?_eq_getElem _⟩
          have hxr : x.row ∈ scanA A (j : Int) spn0 := by rw [← HES.out]; exact List.mem_map.2 ⟨x, List.mem_of_getElem? hx, rfl⟩
          obtain ⟨k, A1, k0, kl, kg, kr, km, kI, kn, kb, kI2⟩ := room_view HI2.out HB.out hjc hxr
          have hrd := rowE_rd (HS6.out.front 2 rfl) hx
          obtain ⟨_, _, xo, xc, hxv, _⟩ := id hrd
          rw [hxv] at hrd
          obtain ⟨rg, rog, rfl⟩ := row_src hrd k0 rfl
          obtain ⟨g, og, rfl⟩ := rowsE_src (HS6.out.own 1 rfl).rd hx HEL.out
          have hlen2 : 0 < x.row.length := by omega
          have hlen : (0 : Int) < (x.row.length : Int) := by omega
          have HX := Lib.hid hx
          have HV := Lib.hid hxv
          have HK0 := Lib.hid k0
          generalize hnum : gnum A (j : Int) k = num at kb
          have HNUM := Lib.hid hnum
          have KG := Lib.hid kg
          have KR := Lib.hid kr
          have KM := Lib.hid km
          have KI := Lib.hid kI
          have KN := Lib.hid kn
          have KB := Lib.hid kb
          have KI2 := Lib.hid kI2
          have HRST := Lib.hid (fun (W : World) (X Y Z : HP) (l : List HP) (h : Sat w (heapOf w) W (X :: Y :: Z :: group (es.map rowP) :: l)) => (show RowRd W (.slice (some ⟨rg, rog, none⟩) x.row.length xc) x.row by rw [← HV.out]; exact rowE_rd (h.front 3 rfl) HX.out))
          clear hx hxr k0 kl kg kr km kI kn kb kI2 hrd hxv hnum
          obtain ⟨c0, y0, y1, y2⟩ := rowsE_at (HS6.out.own 1 rfl).rd (rowE_rd (HS6.out.front 2 rfl) HX.out) HX.out HV.out HK0.out
          go_upto_region 20 with (go_at_call 14; refine (Get_okB (j : Int) k HI2.out HS6.out).mono ?_; rw [KG.out, KR.out, HNUM.out]; rintro e7 w7 ⟨v7, rfl, hs7⟩; have HS7 := Lib.hid (hs7.front 1 rfl); clear hs7 HS6 c0 y0 y1 y2)
          obtain ⟨c0, y0, y1, y2⟩ := rowsE_at (HS7.out.own 2 rfl).rd (rowE_rd (HS7.out.front 3 rfl) HX.out) HX.out HV.out HK0.out
          go_upto_region 21 with (go_at_call 20; refine (Remove_ok (j : Int) k HI2.out (by omega) HS7.out).mono ?_; rw [KM.out]; rintro e8 w8 ⟨rfl, hs8⟩; have HS8 := Lib.hid hs8; clear hs8 HS7 c0 y0 y1 y2)
          obtain ⟨c0, y0, y1, y2⟩ := rowsE_at (HS8.out.own 2 rfl).rd (rowE_rd (HS8.out.front 3 rfl) HX.out) HX.out HV.out HK0.out
          go_upto_region 22 with (go_at_call 14; refine (Get_okB (j : Int) k KI.out HS8.out).mono ?_; rw [KN.out]; rintro e9 w9 ⟨v9, rfl, hs9⟩; have HS9 := Lib.hid hs9.drop; clear hs9 HS8 c0 y0 y1 y2)
          obtain ⟨c0, y0, y1, y2⟩ := rowsE_at (HS9.out.own 2 rfl).rd (rowE_rd (HS9.out.front 3 rfl) HX.out) HX.out HV.out HK0.out
          go_upto_region 23 with (go_at_call 25; refine (Restore_ok (j : Int) num KI.out (by omega) (fun W X h => HRST.out W _ _ _ _ h) HS9.out).mono ?_; rw [KB.out]; rintro e10 w10 ⟨rfl, hs10⟩; have HS10 := Lib.hid hs10; clear hs10 HS9 c0 y0 y1 y2)
          obtain ⟨c0, y0, y1, y2⟩ := rowsE_at (HS10.out.own 2 rfl).rd (rowE_rd (HS10.out.front 3 rfl) HX.out) HX.out HV.out HK0.out
          go_upto_region 24 with (go_at_call 14; refine (Get_okB (j : Int) k KI2.out HS10.out).mono ?_; rw [KG.out, KR.out, HNUM.out]; rintro e11 w11 ⟨v11, rfl, hs11⟩; have HS11 := Lib.hid hs11; clear hs11 HS10 c0 y0 y1 y2)
          have HSM := Lib.hid (rsame_ok (HS11.out.own 2 rfl).rd (HS11.out.own 0 rfl).rd)
          go_wp2_with (first | (go_at_call 16; refine HSM.out.mono ?_; simp only [decide_true]; rintro e12 w12 ⟨rfl, n12, hn12⟩; have HS12 := Lib.hid (show Sat w (heapOf w) w12 _ from hn12 ▸ (HS11.out.drewN n12).front 1 rfl); clear hn12 HSM HS11) | (go_at_call 13; refine (Used_ok HS12.out).mono ?_; rintro e13 w13 ⟨rfl, rfl⟩))
          go_roundw
          case rel => exact ⟨j2 + 1, n2 + 2, by go_num, by omega, by omega, KI2.out, ((HS12.out.front 1 rfl).drop.front 1 rfl).drop⟩
          case measure => simp [intOf]; omega
        · have hno : ¬ ((j2 : Int) < (M : Int)) := by omega
          have HRL := Lib.hid (fun (W : World) (X Y : HP) (h : Sat w (heapOf w) W [X, Y, ownS tR 1 (.slice o4 M c4) M (es.map RowE.v), group (es.map rowP)]) => (show RowsRd W (.slice o4 M c4) (scanA A (j : Int) spn0) by rw [← HES.out]; exact rowsE_rd (by rw [HEL.out]; exact h.drop.drop)))
          go_wp2_with (first | (go_at_call 15; refine (rows_ok (j : Int) spn0 HI2.out HS6.out).mono ?_; rintro e14 w14 ⟨v14, rfl, hs14⟩; have HS14 := Lib.hid hs14; clear hs14 HS6) | (go_at_call 18; refine (rRows_ok (rowsP_rd HS14.out) (HRL.out _ _ _ HS14.out)).mono ?_; simp only [decide_true]; rintro e15 w15 ⟨rfl, hk15⟩; have HS15 := Lib.hid (HS14.out.kept hk15); clear hk15 HS14))
          go_roundw
          case rel => exact ⟨j + 1, n2, by go_num, by omega, by rw [HSU.out, HCM.out, Int.natCast_add], by omega, HI2.out, (((HS15.out.drop).front 1 rfl).drop.front 1 rfl).drop⟩
          case measure => simp [intOf]; omega
    · have hno : ¬ ((j : Int) < (N : Int)) := by omega
      have hle := sum_take_le A.tabs j
      have hle2 := cnt_sum A.tabs
      have hus := HI.out.used
      generalize ((A.tabs.take j).map cnt).sum = q at *
      have hq : (q : Int) ≤ A.used := by omega
      clear hle hle2 hus
      go_wp2_with fail
      go_ret
      exact ⟨by simp [hq], HS.out.drop.end_ (PH.le.refl _)⟩
end Go.Proofs.Ytcbklkcpjldcjaa
