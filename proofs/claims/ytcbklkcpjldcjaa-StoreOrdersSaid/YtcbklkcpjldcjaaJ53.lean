/- StoreOrders: the walk. (printed by genst32.py) -/
import Derived.Test.YtcbklkcpjldcjaaJ51
namespace Go.Proofs.Ytcbklkcpjldcjaa
open Go.ChangeShapes Go.WideShapes Go.ChangeAt Go.RowKit
set_option maxRecDepth 100000
set_option linter.unusedSimpArgs false

/-- a table's columns, wherever the pool is read -/
theorem tabD_at {D : PH} {ao : Option Addr} {n cap j : Nat} {cs : List (List Bool)} {c : List Bool} (h : TabsD D (.slice ao n cap) cs) (hc : cs[j]? = some c) : ∃ g og o cp, ao = some ⟨g, og, none⟩ ∧ ∀ (B w : World) (l : List HP), Sat B D w l → w.cell? ⟨g, og + j, none⟩ = some (.slice o c.length cp) ∧ ColRd w (.slice o c.length cp) c := by
  obtain ⟨hs, h1, h2, h3, h4⟩ := h
  have hlt := (List.getElem?_eq_some_iff.1 hc).1
  obtain ⟨u, hu⟩ : ∃ u, hs[j]? = some u := ⟨hs[j]'(by omega), List.getElem?_eq_getElem _⟩
  have h5 := h4 j u c hu hc
  obtain ⟨o, cp, rfl⟩ := h5.shape
  obtain ⟨_, _, ao2, cap2, hv, _, _, _, hx⟩ := id h3
  cases hv
  rcases hx with h0 | ⟨g, og, rfl, _⟩
  · omega
  refine ⟨g, og, o, cp, rfl, fun B w l hsat => ⟨?_, h5.rd hsat⟩⟩
  rcases (h3.rd hsat).2.2 with ⟨_, _, hv, _, _, _, hcell⟩
  cases hv
  rcases hcell with h0 | ⟨_, _, hg, hcc⟩
  · omega
  cases hg
  exact hcc j _ hu
/-- a span's rows are those of a table that lie in it -/
theorem scan_span {n : Nat} {A : StM} {j : Nat} (hI : StI n A) (hj : j < A.cols.length) (sp : Spn) : scanA A (j : Int) sp = (scanA A (j : Int) spn0).filter (fun r => spanIn sp (keyOf r)) := by
  have hl := hI.len
  have hm : A.tabs[j]? = some (A.tabs[j]'(by omega)) := List.getElem?_eq_getElem _
  have h2 := (tab_at hj hm).2
  obtain ⟨c, hc⟩ : ∃ c, A.cols[j]? = some c := ⟨A.cols[j], List.getElem?_eq_getElem hj⟩
  have hok := hI.good.tabs j c _ hc hm
  unfold scanA
  rw [h2, List.filter_map, List.filter_filter]
  congr 1
  refine List.filter_congr (fun q hq => ?_)
  show (spanIn sp q.1 && !q.2.kept) = (spanIn sp (keyOf q.2.row) && (spanIn spn0 q.1 && !q.2.kept))
  rw [spn0_all, Bool.true_and]
  cases hk : q.2.kept
  · have := ((hok q hq).2 hk).2
    have hkey : keyOf q.2.row = q.1 := by
      unfold keyOf
      cases hr : q.2.row with
      | nil => rw [hr] at this; cases this
      | cons x l => rw [hr] at this; simpa using this
    rw [hkey]
  · simp
theorem fil_at {α : Type} {L : List α} {R : α → Bool} {i : Nat} {r : α} (h : L[i]? = some r) (hr : R r = true) : (L.filter R)[((L.take i).filter R).length]? = some r := by
  have hlt := (List.getElem?_eq_some_iff.1 h).1
  have e : L = L.take i ++ r :: L.drop (i + 1) := by
    conv => lhs; rw [← List.take_append_drop i L]
    congr 1
    rw [List.drop_eq_getElem_cons hlt]
    rw [List.getElem?_eq_getElem hlt] at h
    rw [Option.some.inj h]
  have hf : L.filter R = (L.take i).filter R ++ (r :: L.drop (i + 1)).filter R := by rw [← List.filter_append, ← e]
  rw [hf, List.getElem?_append_right (Nat.le_refl _), Nat.sub_self, List.filter_cons, if_pos hr]
  rfl
theorem fil_take_yes {α : Type} {L : List α} {R : α → Bool} {i : Nat} {r : α} (h : L[i]? = some r) (hr : R r = true) : ((L.take (i + 1)).filter R).length = ((L.take i).filter R).length + 1 := by
  rw [fil_keep h hr, List.length_append]
  rfl
theorem fil_take_no {α : Type} {L : List α} {R : α → Bool} {i : Nat} {r : α} (h : L[i]? = some r) (hr : R r = false) : ((L.take (i + 1)).filter R).length = ((L.take i).filter R).length := by
  rw [fil_drop h hr]
theorem orders_view {n : Nat} {A : StM} {j : Nat} {c : List Bool} {r : List Val} (hI : StI n A) (hb : A.bare = A) (hc : A.cols[j]? = some c) (h : r ∈ scanA A (j : Int) spn0) :
    ∃ k : Val, r[0]? = some k ∧ 1 ≤ r.length ∧ gotM A (j : Int) k = true ∧ grow A (j : Int) k = r ∧ fitsT c r = true := by
  have hj := (List.getElem?_eq_some_iff.1 hc).1
  obtain ⟨m, q, hm, hq, hk, rfl, _⟩ := scan_mem hI hj h
  obtain ⟨g1, g2, g3, g4, g5, g6⟩ := back_law hI hb hm hj hq hk
  have hf := ((hI.good.tabs j c m hc hm q hq).2 hk).1
  exact ⟨q.1, g1, (fits_len hf).1, g2, g3, hf⟩

set_option maxHeartbeats 16000000 in
theorem orders_ok {w : World} {tv sv : Value} {cs : List (List Bool)} {xs : List ActS} (sp : Spn) (_hsp : sp.fits) (hT : TabsD (heapOf w) tv cs) (hA : RdP (heapOf w) 18 sv xs.length (xs.flatMap ActS.cells)) (hO : ∀ a ∈ xs, ActOk (heapOf w) a) :
    Calls Try.prog 7 #[tv, sv, sp.v] w fun e w' => e = .returned (.bool true) ∧ Kept (fun _ => False) w w' := by
  obtain ⟨ta, tc, rfl⟩ := hT.shape
  have hs0 := (Sat.start w).alloc sp.cells tS
  obtain ⟨wa, hwa⟩ : ∃ wa, wa = w.alloc (.cells sp.cells tS) := ⟨_, rfl⟩
  rw [← hwa] at hs0
  dsimp only [Spn.cells] at hwa
  have HWA := Lib.hid hwa
  have HS0 := Lib.hid hs0
  have HT := Lib.hid hT
  have HAS := Lib.hid hA
  have HO := Lib.hid hO
  clear hs0 hwa hT hA hO
  dsimp only [Spn.v]
  go_enter Try.func7, Try.ntmps7
  go_upto_region 1 with fail
  rw [← HWA.out]
  clear HWA
  generalize w.heap.size = ba at HS0 ⊢
  go_upto_region 4 with (go_at_call 9; refine (awake_ok _).mono ?_; rintro e1 w1 ⟨rfl, hk1⟩; have HS1 := Lib.hid (HS0.out.kept hk1); clear hk1 HS0)
  go_upto_region 5 with (go_at_call 17; refine (behind_ok 40 HT.out HAS.out HO.out HS1.out).mono ?_; intro e2 w2 hp2; obtain ⟨o, rfl, hp⟩ := behind_ptr hp2; have HP2 := Lib.hid hp; clear hp2 hp HS1 HAS HO)
  rcases HP2.out with ⟨rfl, hs2⟩ | ⟨s, A, rfl, hI, hcols, -, hs2⟩
  · have HS2 := Lib.hid hs2
    clear hs2 HP2 HT
    go_wp2_with fail
    go_ret
    exact ⟨rfl, HS2.out.drop.end_ (PH.le.refl _)⟩
  subst hcols
  have HB := Lib.hid (bare_of hs2)
  have HS2 := Lib.hid hs2
  have HI := Lib.hid hI
  have hc3 : A.cols.length ≤ 3 := hI.good.some_.2
  obtain ⟨N, hN⟩ : ∃ N, A.cols.length = N := ⟨_, rfl⟩
  have HN := Lib.hid hN
  rw [hN] at hc3 HT ⊢
  clear hs2 hI HP2 hN
  go_wp2_with fail
  go_loopw [9] (fun t wr => ∃ j : Nat, t = .int .i64 j ∧ j ≤ N ∧ Sat w (heapOf w) wr [storeB s 60 A, blk ba sp.cells tS]) (fun t _ => N - (intOf t).toNat)
  case atStart => exact ⟨0, rfl, by omega, HS2.out⟩
  case round =>
    obtain ⟨j, rfl, hj, hs⟩ := hrel
    have HS := Lib.hid hs
    clear hs HS2
    by_cases hlt : j < N
    · have hi : (j : Int) < (N : Int) := by omega
      have hjc : j < A.cols.length := by rw [HN.out]; exact hlt
      obtain ⟨c, hc⟩ : ∃ c, A.cols[j]? = some c := ⟨A.cols[j], List.getElem?_eq_getElem hjc⟩
      obtain ⟨tg, tog, to_, tcp, rfl, htab⟩ := tabD_at HT.out hc
      have HTAB := Lib.hid htab
      have HC := Lib.hid hc
      generalize hM : (scanA A (j : Int) spn0).length = M
      have HMM := Lib.hid hM
      have hM40 : M ≤ 40 := by rw [← hM]; exact scan_len HI.out _ _
      generalize hK : (scanA A (j : Int) sp).length = K
      have HKK := Lib.hid hK
      have hK40 : K ≤ 40 := by rw [← hK]; exact scan_len HI.out _ _
      have HSPAN := Lib.hid (scan_span HI.out hjc sp)
      clear hM hK hc htab
      go_upto_region 11 with (go_at_call 15; refine (rows_ok (j : Int) spn0 HI.out HS.out).mono ?_; rintro e4 w4 ⟨v4, rfl, hs4⟩; obtain ⟨o4, c4, rfl⟩ := rows_shape hs4; rw [HMM.out] at hs4; rw [HMM.out]; have HS4 := Lib.hid (hs4.front 1 rfl); clear hs4 HS)
      obtain ⟨s0, s1, s2, s3, s4, s5, s6, s7, s8, s9, s10⟩ := Spn.at (s := sp) (HS4.out.blk 2 rfl)
      go_upto_region 12 with (go_at_call 15; refine (rows_ok (j : Int) sp HI.out HS4.out).mono ?_; rintro e5 w5 ⟨v5, rfl, hs5⟩; obtain ⟨o5, c5, rfl⟩ := rows_shape hs5; rw [HKK.out] at hs5; rw [HKK.out]; have HS5 := Lib.hid hs5; clear hs5 HS4 s0 s1 s2 s3 s4 s5 s6 s7 s8 s9 s10)
      obtain ⟨ys, hys, hs6⟩ := Sat.open_ex HS5.out
      have hyl : ys.length = K := by rw [← HKK.out, ← hys, List.length_map]
      obtain ⟨es, hes, hs7⟩ := Sat.open_ex (Sat.front hs6 3 rfl)
      have hel : es.length = M := by rw [← HMM.out, ← hes, List.length_map]
      have hs8 : Sat w (heapOf w) w5 [storeB s 60 A, ownS tR 1 (.slice o4 M c4) M (es.map RowE.v), group (es.map rowP), ownS tR 1 (.slice o5 K c5) K (ys.map RowE.v), group (ys.map rowP), blk ba sp.cells tS] := by
        have := Sat.front hs7 4 rfl
        rw [hel, hyl] at this
        exact this
      have HES := Lib.hid hes
      have HEL := Lib.hid hel
      have HYS := Lib.hid hys
      have HYL := Lib.hid hyl
      have HS8 := Lib.hid hs8
      clear hes hel hys hyl hs6 hs7 hs8 HS5
      go_wp2_with fail
      go_loopw [12, 13] (fun kv i wr2 => ∃ j2 : Nat, i = .int .i64 j2 ∧ j2 ≤ M ∧ kv = .int .i64 ((((scanA A (j : Int) spn0).take j2).filter (fun r => spanIn sp (keyOf r))).length : Nat) ∧ Sat w (heapOf w) wr2 [storeB s 60 A, ownS tR 1 (.slice o4 M c4) M (es.map RowE.v), group (es.map rowP), ownS tR 1 (.slice o5 K c5) K (ys.map RowE.v), group (ys.map rowP), blk ba sp.cells tS]) (fun _ i _ => M - (intOf i).toNat)
      case atStart => exact ⟨0, rfl, by omega, rfl, HS8.out⟩
      case round =>
        obtain ⟨j2, rfl, hj2, rfl, hs6⟩ := hrel
        have HS6 := Lib.hid hs6
        clear hs6 HS8
        by_cases hlt2 : j2 < M
        · have hi2 : (j2 : Int) < (M : Int) := by omega
          obtain ⟨x, hx⟩ : ∃ x, es[j2]? = some x := ⟨es[j2]'(by rw [HEL.out]; exact hlt2), List.getElem?_eq_getElem _⟩
          have hxs : (scanA A (j : Int) spn0)[j2]? = some x.row := by rw [← HES.out, List.getElem?_map, hx]; rfl
          obtain ⟨k, k0, kl, kg, kr, kf⟩ := orders_view HI.out HB.out HC.out (List.mem_of_getElem? hxs)
          have hrd := rowE_rd (HS6.out.front 2 rfl) hx
          obtain ⟨_, _, xo, xc, hxv, _⟩ := id hrd
          rw [hxv] at hrd
          obtain ⟨rg, rog, rfl⟩ := row_src hrd k0 rfl
          obtain ⟨g, og, rfl⟩ := rowsE_src (HS6.out.own 1 rfl).rd hx HEL.out
          have hlen2 : 0 < x.row.length := by omega
          have hlen : (0 : Int) < (x.row.length : Int) := by omega
          have HX := Lib.hid hx
          have HV := Lib.hid hxv
          have HK0 := Lib.hid k0
          have KG := Lib.hid kg
          have KR := Lib.hid kr
          have KF := Lib.hid kf
          have HXS := Lib.hid hxs
          generalize hq : (((scanA A (j : Int) spn0).take j2).filter (fun r => spanIn sp (keyOf r))).length = q
          have HQ := Lib.hid hq
          have hqb : q ≤ j2 := by rw [← hq]; exact Nat.le_trans (List.length_filter_le _ _) (by rw [List.length_take]; omega)
          clear hx hxs k0 kl kg kr kf hrd hxv hq
          obtain ⟨c0, y0, y1, y2⟩ := rowsE_at (HS6.out.own 1 rfl).rd (rowE_rd (HS6.out.front 2 rfl) HX.out) HX.out HV.out HK0.out
          go_upto_region 17 with (go_at_call 14; refine (Get_okB (j : Int) k HI.out HS6.out).mono ?_; rw [KG.out, KR.out]; rintro e7 w7 ⟨v7, rfl, hs7⟩; have HS7 := Lib.hid hs7; clear hs7 HS6 c0 y0 y1 y2)
          obtain ⟨c0, y0, y1, y2⟩ := rowsE_at (HS7.out.own 2 rfl).rd (rowE_rd (HS7.out.front 3 rfl) HX.out) HX.out HV.out HK0.out
          have HSM := Lib.hid (rsame_ok (HS7.out.own 0 rfl).rd (rowE_rd (HS7.out.front 3 rfl) HX.out))
          rw [HV.out] at HSM
          go_upto_region 19 with (first | (go_at_call 16; refine HSM.out.mono ?_; simp only [decide_true]; rintro e12 w12 ⟨rfl, n12, hn12⟩; have HS9 := Lib.hid (show Sat w (heapOf w) w12 _ from hn12 ▸ (HS7.out.drewN n12)); clear hn12 HSM HS7 c0 y0 y1 y2; obtain ⟨d0, hcol⟩ := HTAB.out _ _ _ HS9.out; have HFT := Lib.hid (rfits_ok hcol (HS9.out.own 0 rfl).rd); clear hcol) | (go_at_call 12; refine HFT.out.mono ?_; rw [KF.out]; rintro e13 w13 ⟨rfl, hk13⟩; have HS10 := Lib.hid (HS9.out.kept hk13); clear hk13 HS9 HFT d0))
          by_cases hqk : q < K
          · have hqk2 : (q : Int) < (K : Int) := by omega
            obtain ⟨y, hy⟩ : ∃ y, ys[q]? = some y := ⟨ys[q]'(by rw [HYL.out]; exact hqk), List.getElem?_eq_getElem _⟩
            have hyr : (scanA A (j : Int) sp)[q]? = some y.row := by rw [← HYS.out, List.getElem?_map, hy]; rfl
            rw [HSPAN.out] at hyr
            obtain ⟨g5, og5, rfl⟩ := rowsE_src (HS10.out.own 4 rfl).rd hy HYL.out
            have hyrd := rowE_rd (HS10.out.front 5 rfl) hy
            obtain ⟨_, _, yo, yc, hyv, _⟩ := id hyrd
            have d0 := rowsE_cell (HS10.out.own 4 rfl).rd hy
            rw [hyv] at d0
            obtain ⟨c0, y0, y1, y2⟩ := rowsE_at (HS10.out.own 2 rfl).rd (rowE_rd (HS10.out.front 3 rfl) HX.out) HX.out HV.out HK0.out
            have HSM := Lib.hid (rsame_ok (w := w13.drew) (rowE_rd (HS10.out.drew.front 5 rfl) hy) (rowE_rd (HS10.out.drew.front 3 rfl) HX.out))
            rw [HV.out, hyv] at HSM
            have HYR := Lib.hid hyr
            clear hy hyr hyrd hyv
            by_cases hR : spanIn sp (keyOf x.row) = true
            · have hyx : y.row = x.row := by
                have h1 := fil_at (R := fun r => spanIn sp (keyOf r)) HXS.out hR
                rw [HQ.out, HYR.out] at h1
                exact Option.some.inj h1
              have HSTEP := Lib.hid (fil_take_yes (R := fun r => spanIn sp (keyOf r)) HXS.out hR)
              rw [hyx] at HSM d0
              clear hR hyx
              refine wp_region_canon [(0, false, 13), (1, false, 13), (2, false, 13), (3, false, 13), (4, false, 13), (5, false, 13), (6, false, 13), (7, false, 13), (8, false, 13), (9, false, 13), (10, false, 13), (11, false, 13), (12, false, 13), (13, true, 0), (14, false, 999)] (by kernel_rfl) (by kernel_rfl) ?_
              iterate 5 (refine wpCan_read rfl rfl (fun K hK => ?_); go_simp; refine hK _ ?_; clear hK K)
              first | (refine wpCan_no rfl rfl ?_; simp only [Act.put, List.setIfInBounds_toArray, List.set_cons_succ, List.set_cons_zero, List.getElem_toArray, List.getElem_cons_succ, List.getElem_cons_zero]) | (refine wpCan_yes rfl rfl (fun K hK => ?_); go_simp; refine hK _ ?_; clear hK K)
              first | (refine wpCan_no rfl rfl ?_; simp only [Act.put, List.setIfInBounds_toArray, List.set_cons_succ, List.set_cons_zero, List.getElem_toArray, List.getElem_cons_succ, List.getElem_cons_zero]) | (refine wpCan_yes rfl rfl (fun K hK => ?_); go_simp; refine hK _ ?_; clear hK K)
              first | (refine wpCan_no rfl rfl ?_; simp only [Act.put, List.setIfInBounds_toArray, List.set_cons_succ, List.set_cons_zero, List.getElem_toArray, List.getElem_cons_succ, List.getElem_cons_zero]) | (refine wpCan_yes rfl rfl (fun K hK => ?_); go_simp; refine hK _ ?_; clear hK K)
              first | (refine wpCan_no rfl rfl ?_; simp only [Act.put, List.setIfInBounds_toArray, List.set_cons_succ, List.set_cons_zero, List.getElem_toArray, List.getElem_cons_succ, List.getElem_cons_zero]) | (refine wpCan_yes rfl rfl (fun K hK => ?_); go_simp; refine hK _ ?_; clear hK K)
              first | (refine wpCan_no rfl rfl ?_; simp only [Act.put, List.setIfInBounds_toArray, List.set_cons_succ, List.set_cons_zero, List.getElem_toArray, List.getElem_cons_succ, List.getElem_cons_zero]) | (refine wpCan_yes rfl rfl (fun K hK => ?_); go_simp; refine hK _ ?_; clear hK K)
              first | (refine wpCan_no rfl rfl ?_; simp only [Act.put, List.setIfInBounds_toArray, List.set_cons_succ, List.set_cons_zero, List.getElem_toArray, List.getElem_cons_succ, List.getElem_cons_zero]) | (refine wpCan_yes rfl rfl (fun K hK => ?_); go_simp; refine hK _ ?_; clear hK K)
              first | (refine wpCan_no rfl rfl ?_; simp only [Act.put, List.setIfInBounds_toArray, List.set_cons_succ, List.set_cons_zero, List.getElem_toArray, List.getElem_cons_succ, List.getElem_cons_zero]) | (refine wpCan_yes rfl rfl (fun K hK => ?_); go_simp; refine hK _ ?_; clear hK K)
              first | (refine wpCan_no rfl rfl ?_; simp only [Act.put, List.setIfInBounds_toArray, List.set_cons_succ, List.set_cons_zero, List.getElem_toArray, List.getElem_cons_succ, List.getElem_cons_zero]) | (refine wpCan_yes rfl rfl (fun K hK => ?_); go_simp; refine hK _ ?_; clear hK K)
              refine wpCan_eff rfl ?_
              refine wpList_do rfl (fun K hK => ?_)
              go_simp
              refine HSM.out.mono ?_
              simp only [decide_true]
              rintro e14 w14 ⟨rfl, n14, hn14⟩
              have HS11 := Lib.hid (show Sat w (heapOf w) w14 _ from hn14 ▸ (HS10.out.drew.drewN n14))
              clear hn14 HSM HS10 c0 y0 y1 y2 d0
              refine hK _ _ ?_
              clear hK K
              refine wpList_nil ?_
              refine And.intro ?_ ?_
              · go_simp
              iterate 1 (refine wpCan_read rfl rfl (fun K hK => ?_); go_simp; refine hK _ ?_; clear hK K)
              refine wpCan_nil ?_
              go_wp2_with fail
              go_roundw
              case rel => exact ⟨j2 + 1, by go_num, by omega, by rw [HSTEP.out, HQ.out]; go_num, HS11.out.drop⟩
              case measure => simp [intOf]; omega
            · have hR' : spanIn sp (keyOf x.row) = false := by simpa using hR
              have hyx : ¬ (y.row = x.row) := fun h => by
                have h1 := (List.mem_filter.1 (List.mem_of_getElem? HYR.out)).2
                rw [h, hR'] at h1
                cases h1
              have HSTEP := Lib.hid (fil_take_no (R := fun r => spanIn sp (keyOf r)) HXS.out hR')
              have hdf : decide (y.row = x.row) = false := decide_eq_false hyx
              rw [hdf] at HSM
              clear hR hR' hyx hdf
              refine wp_region_canon [(0, false, 13), (1, false, 13), (2, false, 13), (3, false, 13), (4, false, 13), (5, false, 13), (6, false, 13), (7, false, 13), (8, false, 13), (9, false, 13), (10, false, 13), (11, false, 13), (12, false, 13), (13, true, 0), (14, false, 999)] (by kernel_rfl) (by kernel_rfl) ?_
              iterate 5 (refine wpCan_read rfl rfl (fun K hK => ?_); go_simp; refine hK _ ?_; clear hK K)
              first | (refine wpCan_no rfl rfl ?_; simp only [Act.put, List.setIfInBounds_toArray, List.set_cons_succ, List.set_cons_zero, List.getElem_toArray, List.getElem_cons_succ, List.getElem_cons_zero]) | (refine wpCan_yes rfl rfl (fun K hK => ?_); go_simp; refine hK _ ?_; clear hK K)
              first | (refine wpCan_no rfl rfl ?_; simp only [Act.put, List.setIfInBounds_toArray, List.set_cons_succ, List.set_cons_zero, List.getElem_toArray, List.getElem_cons_succ, List.getElem_cons_zero]) | (refine wpCan_yes rfl rfl (fun K hK => ?_); go_simp; refine hK _ ?_; clear hK K)
              first | (refine wpCan_no rfl rfl ?_; simp only [Act.put, List.setIfInBounds_toArray, List.set_cons_succ, List.set_cons_zero, List.getElem_toArray, List.getElem_cons_succ, List.getElem_cons_zero]) | (refine wpCan_yes rfl rfl (fun K hK => ?_); go_simp; refine hK _ ?_; clear hK K)
              first | (refine wpCan_no rfl rfl ?_; simp only [Act.put, List.setIfInBounds_toArray, List.set_cons_succ, List.set_cons_zero, List.getElem_toArray, List.getElem_cons_succ, List.getElem_cons_zero]) | (refine wpCan_yes rfl rfl (fun K hK => ?_); go_simp; refine hK _ ?_; clear hK K)
              first | (refine wpCan_no rfl rfl ?_; simp only [Act.put, List.setIfInBounds_toArray, List.set_cons_succ, List.set_cons_zero, List.getElem_toArray, List.getElem_cons_succ, List.getElem_cons_zero]) | (refine wpCan_yes rfl rfl (fun K hK => ?_); go_simp; refine hK _ ?_; clear hK K)
              first | (refine wpCan_no rfl rfl ?_; simp only [Act.put, List.setIfInBounds_toArray, List.set_cons_succ, List.set_cons_zero, List.getElem_toArray, List.getElem_cons_succ, List.getElem_cons_zero]) | (refine wpCan_yes rfl rfl (fun K hK => ?_); go_simp; refine hK _ ?_; clear hK K)
              first | (refine wpCan_no rfl rfl ?_; simp only [Act.put, List.setIfInBounds_toArray, List.set_cons_succ, List.set_cons_zero, List.getElem_toArray, List.getElem_cons_succ, List.getElem_cons_zero]) | (refine wpCan_yes rfl rfl (fun K hK => ?_); go_simp; refine hK _ ?_; clear hK K)
              first | (refine wpCan_no rfl rfl ?_; simp only [Act.put, List.setIfInBounds_toArray, List.set_cons_succ, List.set_cons_zero, List.getElem_toArray, List.getElem_cons_succ, List.getElem_cons_zero]) | (refine wpCan_yes rfl rfl (fun K hK => ?_); go_simp; refine hK _ ?_; clear hK K)
              refine wpCan_eff rfl ?_
              refine wpList_do rfl (fun K hK => ?_)
              go_simp
              refine HSM.out.mono ?_
              rintro e14 w14 ⟨rfl, n14, hn14⟩
              have HS11 := Lib.hid (show Sat w (heapOf w) w14 _ from hn14 ▸ (HS10.out.drew.drewN n14))
              clear hn14 HSM HS10 c0 y0 y1 y2 d0
              refine hK _ _ ?_
              clear hK K
              refine wpList_nil ?_
              refine And.intro ?_ ?_
              · go_simp
              iterate 1 (refine wpCan_read rfl rfl (fun K hK => ?_); go_simp; refine hK _ ?_; clear hK K)
              refine wpCan_nil ?_
              go_wp2_with fail
              go_roundw
              case rel => exact ⟨j2 + 1, by go_num, by omega, by rw [HSTEP.out, HQ.out], HS11.out.drop⟩
              case measure => simp [intOf]; omega
          · have hqk2 : ¬ ((q : Int) < (K : Int)) := by omega
            have hR' : spanIn sp (keyOf x.row) = false := by
              cases hR : spanIn sp (keyOf x.row) with
              | false => rfl
              | true =>
                have h1 := fil_at (R := fun r => spanIn sp (keyOf r)) HXS.out hR
                rw [HQ.out, ← HSPAN.out] at h1
                have := (List.getElem?_eq_some_iff.1 h1).1
                rw [HKK.out] at this
                exact absurd this hqk
            have HSTEP := Lib.hid (fil_take_no (R := fun r => spanIn sp (keyOf r)) HXS.out hR')
            clear hR'
            refine wp_region_canon [(0, false, 13), (1, false, 13), (2, false, 13), (3, false, 13), (4, false, 13), (5, false, 13), (6, false, 13), (7, false, 13), (8, false, 13), (9, false, 13), (10, false, 13), (11, false, 13), (12, false, 13), (13, true, 0), (14, false, 999)] (by kernel_rfl) (by kernel_rfl) ?_
            iterate 5 (refine wpCan_read rfl rfl (fun K hK => ?_); go_simp; refine hK _ ?_; clear hK K)
            first | (refine wpCan_no rfl rfl ?_; simp only [Act.put, List.setIfInBounds_toArray, List.set_cons_succ, List.set_cons_zero, List.getElem_toArray, List.getElem_cons_succ, List.getElem_cons_zero]) | (refine wpCan_yes rfl rfl (fun K hK => ?_); go_simp; refine hK _ ?_; clear hK K)
            first | (refine wpCan_no rfl rfl ?_; simp only [Act.put, List.setIfInBounds_toArray, List.set_cons_succ, List.set_cons_zero, List.getElem_toArray, List.getElem_cons_succ, List.getElem_cons_zero]) | (refine wpCan_yes rfl rfl (fun K hK => ?_); go_simp; refine hK _ ?_; clear hK K)
            first | (refine wpCan_no rfl rfl ?_; simp only [Act.put, List.setIfInBounds_toArray, List.set_cons_succ, List.set_cons_zero, List.getElem_toArray, List.getElem_cons_succ, List.getElem_cons_zero]) | (refine wpCan_yes rfl rfl (fun K hK => ?_); go_simp; refine hK _ ?_; clear hK K)
            first | (refine wpCan_no rfl rfl ?_; simp only [Act.put, List.setIfInBounds_toArray, List.set_cons_succ, List.set_cons_zero, List.getElem_toArray, List.getElem_cons_succ, List.getElem_cons_zero]) | (refine wpCan_yes rfl rfl (fun K hK => ?_); go_simp; refine hK _ ?_; clear hK K)
            first | (refine wpCan_no rfl rfl ?_; simp only [Act.put, List.setIfInBounds_toArray, List.set_cons_succ, List.set_cons_zero, List.getElem_toArray, List.getElem_cons_succ, List.getElem_cons_zero]) | (refine wpCan_yes rfl rfl (fun K hK => ?_); go_simp; refine hK _ ?_; clear hK K)
            first | (refine wpCan_no rfl rfl ?_; simp only [Act.put, List.setIfInBounds_toArray, List.set_cons_succ, List.set_cons_zero, List.getElem_toArray, List.getElem_cons_succ, List.getElem_cons_zero]) | (refine wpCan_yes rfl rfl (fun K hK => ?_); go_simp; refine hK _ ?_; clear hK K)
            first | (refine wpCan_no rfl rfl ?_; simp only [Act.put, List.setIfInBounds_toArray, List.set_cons_succ, List.set_cons_zero, List.getElem_toArray, List.getElem_cons_succ, List.getElem_cons_zero]) | (refine wpCan_yes rfl rfl (fun K hK => ?_); go_simp; refine hK _ ?_; clear hK K)
            first | (refine wpCan_no rfl rfl ?_; simp only [Act.put, List.setIfInBounds_toArray, List.set_cons_succ, List.set_cons_zero, List.getElem_toArray, List.getElem_cons_succ, List.getElem_cons_zero]) | (refine wpCan_yes rfl rfl (fun K hK => ?_); go_simp; refine hK _ ?_; clear hK K)
            refine wpCan_eff rfl ?_
            refine wpList_not rfl ?_
            simp only [Act.put, List.setIfInBounds_toArray, List.set_cons_succ, List.set_cons_zero]
            refine wpList_nil ?_
            refine And.intro ?_ ?_
            · go_simp
            iterate 1 (refine wpCan_read rfl rfl (fun K hK => ?_); go_simp; refine hK _ ?_; clear hK K)
            refine wpCan_nil ?_
            go_wp2_with fail
            go_roundw
            case rel => exact ⟨j2 + 1, by go_num, by omega, by rw [HSTEP.out, HQ.out], HS10.out.drew.drop⟩
            case measure => simp [intOf]; omega
        · have hno : ¬ ((j2 : Int) < (M : Int)) := by omega
          have hfin : (((scanA A (j : Int) spn0).take j2).filter (fun r => spanIn sp (keyOf r))).length = K := by rw [List.take_of_length_le (by rw [HMM.out]; omega), ← HSPAN.out, HKK.out]
          rw [hfin]
          clear hfin
          go_wp2_with fail
          go_roundw
          case rel => exact ⟨j + 1, by go_num, by omega, ((((HS6.out.front 1 rfl).drop.front 1 rfl).drop.front 1 rfl).drop.front 1 rfl).drop⟩
          case measure => simp [intOf]; omega
    · have hno : ¬ ((j : Int) < (N : Int)) := by omega
      go_wp2_with fail
      go_ret
      exact ⟨rfl, HS.out.drop.drop.end_ (PH.le.refl _)⟩
end Go.Proofs.Ytcbklkcpjldcjaa
