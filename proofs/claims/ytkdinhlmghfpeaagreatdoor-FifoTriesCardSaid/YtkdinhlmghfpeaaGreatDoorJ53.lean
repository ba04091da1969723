/- What is tried for is held, or nothing has changed (the law FifoTries). -/
import Derived.Test.YtkdinhlmghfpeaaGreatDoorJ52
namespace Go.Proofs.YtkdinhlmghfpeaaGreatDoor
open Go.ChangeShapes Go.WideShapes Go.ChangeAt Go.RowKit
set_option maxRecDepth 100000
set_option linter.unusedSimpArgs false

theorem holdsQ_leT {n : Nat} {Q : Qm Clm} (h : ScOk n Q) (o : Int) : (holdsQ Q o).length ≤ n := by
  unfold holdsQ
  rw [List.length_map]
  have h1 := List.length_filter_le (ofE o) Q.held
  have := h.len
  omega
theorem clmSame_self {c : Clm} (h : 1 ≤ c.kind ∧ c.kind ≤ 3) : RC.same c c = true := by
  refine clmSame_iff.2 ⟨rfl, rfl, ?_⟩
  have : c.kind = 1 ∨ c.kind = 2 ∨ c.kind = 3 := by omega
  rcases this with h | h | h
  · exact .inl h
  · exact .inr (.inl ⟨h, rfl⟩)
  · exact .inr (.inr ⟨h, rfl⟩)
theorem join_same (c h : Clm) (hs : RC.same h c = true) : RC.same (RC.join h c) c = true := by
  have h1 : RC.same c (RC.join h c) = RC.same c c := RC_ok.own h c c hs
  have h2 : RC.same c c = true := by
    have h3 : clmSame c h = clmSame c c := clmSame_trans hs
    show clmSame c c = true
    rw [← h3, clmSame_sym]
    exact hs
  show clmSame _ _ = true
  rw [clmSame_sym]
  exact h1.trans h2
set_option maxHeartbeats 32000000 in
theorem triesLaw_ok {W : World} {v : Value} {acts : List ActE} (x : Int) (c : ClmE) (tb : EnvD (heapOf W)) (hv : ActsRd W v acts) (hc : RdCl W c) (hf : ClmFit c.c) :
    Calls Tryz.prog 9 #[v, .int .i64 x, .agg c.cells.toArray] W fun r w' => r = .returned (.bool true) ∧ Kept (fun _ => False) W w' := by
  obtain ⟨D, hD⟩ : ∃ D, heapOf W = D := ⟨_, rfl⟩
  have HV := Lib.hid (show ActsD D v acts by rw [← hD]; exact ActsD.of_rd hv)
  have HE := Lib.hid (show EnvD D by rw [← hD]; exact tb)
  have HOK := Lib.hid (show ClOk D c by rw [← hD]; exact ClOk.of_rd hc)
  obtain ⟨W1, hW1, hs1⟩ := Sat.hide ((show Sat W D W [] by rw [← hD]; exact Sat.start W).alloc c.cells.toArray tCl)
  have HAW := Lib.hid (awake_ok HE.out hs1)
  have HEND := Lib.hid (show ∀ (D' : PH) (w' : World), PH.le D D' → Sat W D' w' [] → Kept (fun _ => False) W w' from fun D' w' hle hs => hs.end_ (by rw [hD]; exact hle))
  obtain ⟨a, cc, rfl, hN⟩ := HV.out.shape
  have HW1 := Lib.hid hW1
  have HFIT := Lib.hid hf
  clear hv tb hD hs1 hW1 hc hf
  go_enter Tryz.func9, Tryz.ntmps9
  go_upto_region 1 with fail
  rw [← HW1.out]
  clear HW1
  generalize W.heap.size = b5 at *
  go_upto_region 4 with (go_at_call 11; refine HAW.out.mono ?_; rintro e1 w1 ⟨rfl, hs1⟩; have HS1 := Lib.hid hs1; clear hs1 HAW)
  have HLC := Lib.hid (loadCl (blk_range (HS1.out.blk 0 rfl)))
  have HFW := Lib.hid (few_ok (HOK.out.rd HS1.out))
  cases hfew : fewB c.c
  · rw [hfew] at HFW
    clear hfew
    go_wp2_with (first | (refine wpList_ld rfl _ _ rfl _ _ rfl _ HLC.out ?_) | (go_at_call 26; refine HFW.out.mono ?_; rintro e2 w2 ⟨rfl, hk2⟩; have HS2 := Lib.hid (HS1.out.kept hk2); clear hk2 HS1 HFW HLC))
    go_ret
    exact ⟨rfl, HEND.out D _ (PH.le.refl _) HS2.out.drop⟩
  rw [hfew] at HFW
  have HSM := Lib.hid (show ClmSm 1000000 c.c from (few_sm hfew).mono (by omega))
  clear hfew
  go_upto_region 7 with (first | (refine wpList_ld rfl _ _ rfl _ _ rfl _ HLC.out ?_) | (go_at_call 26; refine HFW.out.mono ?_; rintro e2 w2 ⟨rfl, hk2⟩; have HS2 := Lib.hid (HS1.out.kept hk2); clear hk2 HS1 HFW HLC))
  have HB := Lib.hid (behind_ok HE.out HV.out HS2.out)
  clear HS2
  go_upto_region 8 with (go_at_call 22; refine HB.out.mono ?_; rintro e3 w3 ⟨q, D1, rfl, hle, hs3⟩; have HLE := Lib.hid hle; have HS3 := Lib.hid hs3; clear hle hs3 HB)
  have HSC := Lib.hid ((runQ_sc (l := acts.take 40) (fun y hy => (HV.out.2 y (List.mem_of_mem_take hy)).2)).mono (show (acts.take 40).length ≤ 40 by rw [List.length_take]; omega))
  have hlen := HSC.out.len
  have HED := Lib.hid (HE.out.mono HLE.out)
  generalize runQ (acts.take 40) = Q at *
  obtain ⟨on, hon, ho7⟩ := and7n x
  have hh : Q.held.length ≤ 100000 := by omega
  have hww : Q.waits.length ≤ 1000 := by omega
  have hM2 : Q.held.length + Q.waits.length ≤ 1000000 := by omega
  have HQS := Lib.hid (show ∀ e ∈ Q.held, ClmSm 1000000 e.c from fun e he => (HSC.out.all.1 e he).sm (by omega))
  have HWA := Lib.hid (Waits_C (on : Int) HS3.out)
  clear HS3
  go_upto_region 9 with fail
  clear hon
  go_upto_region 10 with (first | (go_at_call 29; refine HWA.out.mono ?_; rintro e4 w4 ⟨z, rfl, _, _, hs4⟩; have HS4 := Lib.hid ((hs4.alloc z.cells.toArray tCl).drop); clear hs4 HWA) | (refine wpList_store_new rfl _ _ _ rfl z.cells _ _ rfl rfl (by kernel_rfl) rfl (ClmE.one _) ?_))
  have HHO := Lib.hid (Holds_C (on : Int) hh HS4.out)
  clear HS4
  go_upto_region 11 with (go_at_call 23; refine HHO.out.mono ?_; rintro e5 w5 ⟨v5, rfl, hs5⟩; obtain ⟨cs, hcm, hco, hs6⟩ := clmsOpen hs5; obtain ⟨a5, c5, rfl⟩ := hs6.own_shape; have HCM := Lib.hid hcm; have HCO := Lib.hid hco; have HS5 := Lib.hid (show Sat W D1 w5 (queC D1 q Q :: clsP (.slice a5 cs.length c5) cs :: [blk b5 c.cells.toArray tCl]) from hs6.swap); clear hcm hco hs5 hs6 HHO)
  have hcl : cs.length ≤ 40 := by have := congrArg List.length HCM.out; rw [List.length_map] at this; have := holdsQ_leT HSC.out (on : Int); omega
  have HLN := Lib.hid (Len_C hM2 HS5.out)
  generalize hnn : Q.held.length + Q.waits.length = nn at *
  have HNN := Lib.hid hnn
  clear hnn
  go_upto_region 12 with (go_at_call 28; refine HLN.out.mono ?_; rintro e6 w6 ⟨rfl, hk6⟩; have HS6 := Lib.hid (HS5.out.kept hk6); clear hk6 HLN HS5)
  have HLC := Lib.hid (loadCl (blk_range (HS6.out.blk 2 rfl)))
  have HTR := Lib.hid (Try_C (on : Int) c HED.out (HOK.out.mono HLE.out) HSM.out HQS.out hh hww HS6.out)
  have hsc2 := ask_len (R := RC) Q (on : Int) c.c false
  have hnn40 : nn ≤ 40 := by have := HNN.out; omega
  rw [HNN.out] at hsc2
  have HTV := Lib.hid (try_view (R := RC) (q := Q) (on : Int) c.c (fun h hs => join_same c.c h hs))
  clear HS6
  go_upto_region 13 with (first | (refine wpList_ld rfl _ _ rfl _ _ rfl _ HLC.out ?_) | (go_at_call 38; refine HTR.out.mono ?_; rintro e7 w7 ⟨D2, rfl, hle7, hs7⟩; have HLE2 := Lib.hid (HLE.out.trans hle7); have HL7 := Lib.hid hle7; have HS7 := Lib.hid hs7; clear hle7 hs7 HTR HLC))
  generalize askQ RC Q (on : Int) c.c false = X at *
  have hXl : X.1.held.length + X.1.waits.length ≤ 41 := by omega
  have hXh : X.1.held.length ≤ 100000 := by omega
  have hXM : X.1.held.length + X.1.waits.length ≤ 1000000 := by omega
  clear hsc2
  rcases HTV.out with ⟨hx2, hx1⟩ | ⟨hx2, hwn, hge, hws, hln, hsm⟩
  · rw [hx2]
    rw [hx1] at HS7 hXh hXM
    clear hx2 hx1 HTV hXl
    generalize hbw : (waitsQ Q (on : Int)).2 = bw
    have HBW := Lib.hid hbw
    clear hbw
    have HWA := Lib.hid (Waits_C (on : Int) HS7.out)
    clear HS7
    go_upto_region 15 with (first | (go_at_call 29; refine HWA.out.mono ?_; rintro e8 w8 ⟨z2, rfl, _, _, hs8⟩; have HS8 := Lib.hid ((hs8.alloc z2.cells.toArray tCl).drop); clear hs8 HWA) | (refine wpList_store_new rfl _ _ _ rfl z2.cells _ _ rfl rfl (by kernel_rfl) rfl (ClmE.one _) ?_))
    rw [HBW.out]
    have HLN := Lib.hid (Len_C hXM HS8.out)
    rw [HNN.out] at HLN
    cases bw
    all_goals
      go_wp2_with (first
        | (go_at_call 28; refine HLN.out.mono ?_; rintro e9 w9 ⟨rfl, hk9⟩; have HS9 := Lib.hid (HS8.out.kept hk9); have HHO := Lib.hid (Holds_C (on : Int) hXh HS9.out); clear hk9 HLN HS8 HS9)
        | (go_at_call 23; refine HHO.out.mono ?_; rintro e10 w10 ⟨v10, rfl, hs10⟩; obtain ⟨ds, hdm, hdo, hs11⟩ := clmsOpen hs10; obtain ⟨a10, c10, rfl⟩ := hs11.own_shape; have HSA := Lib.hid (rqSame_ok ⟨(hs11.own 0 rfl).rd, fun y hy => (hdo y hy).rd hs11⟩ ⟨(hs11.own 2 rfl).rd, fun y hy => ((HCO.out y hy).mono HL7.out).rd hs11⟩ (hdm.trans HCM.out.symm)); have HS11 := Lib.hid hs11; clear hdm hdo hs10 hs11 HHO)
        | (go_at_call 32; refine HSA.out.mono ?_; rintro e12 w12 ⟨rfl, hk12⟩; have HS12 := Lib.hid (HS11.out.kept hk12); clear hk12 HSA HS11))
      go_ret
      exact ⟨rfl, HEND.out D2 _ HLE2.out HS12.out.drop.drop.drop.drop⟩
  · rw [hx2]
    have hbw : (waitsQ Q (on : Int)).2 = false := by rw [waitsQ_snd]; exact hwn
    rw [hbw]
    have HSMX := Lib.hid hsm
    have HHO := Lib.hid (Holds_C (on : Int) hXh HS7.out)
    clear hx2 hwn hbw HTV HS7 hsm
    go_upto_region 17 with (go_at_call 23; refine HHO.out.mono ?_; rintro e8 w8 ⟨v8, rfl, hs8⟩; obtain ⟨ds, hdm, hdo, hs9⟩ := clmsOpen hs8; obtain ⟨a8, c8, rfl⟩ := hs9.own_shape; have HDM := Lib.hid hdm; have HDO := Lib.hid hdo; have HS8 := Lib.hid hs9; clear hdm hdo hs8 hs9 HHO)
    have HLE5 := Lib.hid (show cs.length ≤ ds.length ∧ X.1.held.length + X.1.waits.length + cs.length = nn + ds.length ∧ ds.length ≤ 41 by
      have h1 := congrArg List.length HCM.out
      have h2 := congrArg List.length HDM.out
      have h3 : (holdsQ X.1 (on : Int)).length ≤ X.1.held.length := by unfold holdsQ; rw [List.length_map]; exact List.length_filter_le _ _
      have h4 := HNN.out
      rw [List.length_map] at h1 h2
      rw [hws]
      omega)
    clear hge hws hln
    generalize hTT : X.1.held.length + X.1.waits.length = TT at *
    have HTT := Lib.hid hTT
    clear hTT
    go_wp2_with fail
    go_loopw [19, 20] (fun st ii wr => ∃ (i : Nat) (b : Bool), ii = .int .i64 i ∧ st = .bool b ∧ i ≤ ds.length ∧ b = (ds.take i).any (fun y => RC.same y.c c.c) ∧ Sat W D2 wr [clsP (.slice a8 ds.length c8) ds, queC D2 q X.1, clsP (.slice a5 cs.length c5) cs, blk b5 c.cells.toArray tCl]) (fun _ ii _ => ds.length - (intOf ii).toNat)
    case atStart => exact ⟨0, false, rfl, rfl, Nat.zero_le _, rfl, HS8.out⟩
    case round =>
      obtain ⟨i, b, rfl, rfl, hi, hb, hs⟩ := hrel
      have HB := Lib.hid hb
      have HS9 := Lib.hid hs
      have hds : ds.length ≤ 41 := HLE5.out.2.2
      clear hb hs HS8
      by_cases hil : i < ds.length
      · have hii : (i : Int) < (ds.length : Int) := by omega
        obtain ⟨y, hy⟩ : ∃ y, ds[i]? = some y := ⟨ds[i]'hil, List.getElem?_eq_getElem _⟩
        have HY := Lib.hid hy
        cases b
        · obtain ⟨g, og, hg, hr⟩ := elem_range ClmE.len (HS9.out.own 0 rfl).rd hy rfl
          have HSM2 := Lib.hid (rcSame_ok (w := wr.drew) ((HDO.out y (List.mem_of_getElem? hy)).rd HS9.out.drew) ((HOK.out.mono HLE2.out).rd HS9.out.drew))
          cases hg
          have HLX := Lib.hid (loadCl (w := wr.drew) hr)
          have HLC := Lib.hid (loadCl (w := wr.drew) (blk_range (HS9.out.drew.blk 3 rfl)))
          obtain ⟨sm, hsm⟩ : ∃ sm, RC.same y.c c.c = sm := ⟨_, rfl⟩
          rw [hsm] at HSM2
          have HN := Lib.hid (show sm = (ds.take (i + 1)).any (fun y => RC.same y.c c.c) by rw [any_snoc _ HY.out, ← HB.out, hsm]; rfl)
          clear hy hr hsm
          go_upto_region 21 with fail
          refine wp_region_canon [(0, false, 7), (1, false, 7), (2, false, 7), (3, false, 7), (4, false, 7), (5, false, 7), (6, false, 7), (7, true, 0), (8, false, 999), (9, false, 999)] (by kernel_rfl) (by kernel_rfl) ?_
          iterate 2 (refine wpCan_read rfl rfl (fun K hK => ?_); (first | ((refine still_ld _ _ rfl _ _ rfl _ HLX.out ?_); go_simp) | ((refine still_ld _ _ rfl _ _ rfl _ HLC.out ?_); go_simp) | go_simp); refine hK _ ?_; clear hK K)
          first | (refine wpCan_no rfl rfl ?_; simp only [Act.put, List.setIfInBounds_toArray, List.set_cons_succ, List.set_cons_zero, List.getElem_toArray, List.getElem_cons_succ, List.getElem_cons_zero]) | (refine wpCan_yes rfl rfl (fun K hK => ?_); (first | ((refine still_ld _ _ rfl _ _ rfl _ HLX.out ?_); go_simp) | ((refine still_ld _ _ rfl _ _ rfl _ HLC.out ?_); go_simp) | go_simp); refine hK _ ?_; clear hK K)
          first | (refine wpCan_no rfl rfl ?_; simp only [Act.put, List.setIfInBounds_toArray, List.set_cons_succ, List.set_cons_zero, List.getElem_toArray, List.getElem_cons_succ, List.getElem_cons_zero]) | (refine wpCan_yes rfl rfl (fun K hK => ?_); (first | ((refine still_ld _ _ rfl _ _ rfl _ HLX.out ?_); go_simp) | ((refine still_ld _ _ rfl _ _ rfl _ HLC.out ?_); go_simp) | go_simp); refine hK _ ?_; clear hK K)
          first | (refine wpCan_no rfl rfl ?_; simp only [Act.put, List.setIfInBounds_toArray, List.set_cons_succ, List.set_cons_zero, List.getElem_toArray, List.getElem_cons_succ, List.getElem_cons_zero]) | (refine wpCan_yes rfl rfl (fun K hK => ?_); (first | ((refine still_ld _ _ rfl _ _ rfl _ HLX.out ?_); go_simp) | ((refine still_ld _ _ rfl _ _ rfl _ HLC.out ?_); go_simp) | go_simp); refine hK _ ?_; clear hK K)
          first | (refine wpCan_no rfl rfl ?_; simp only [Act.put, List.setIfInBounds_toArray, List.set_cons_succ, List.set_cons_zero, List.getElem_toArray, List.getElem_cons_succ, List.getElem_cons_zero]) | (refine wpCan_yes rfl rfl (fun K hK => ?_); (first | ((refine still_ld _ _ rfl _ _ rfl _ HLX.out ?_); go_simp) | ((refine still_ld _ _ rfl _ _ rfl _ HLC.out ?_); go_simp) | go_simp); refine hK _ ?_; clear hK K)
          first | (refine wpCan_no rfl rfl ?_; simp only [Act.put, List.setIfInBounds_toArray, List.set_cons_succ, List.set_cons_zero, List.getElem_toArray, List.getElem_cons_succ, List.getElem_cons_zero]) | (refine wpCan_yes rfl rfl (fun K hK => ?_); (first | ((refine still_ld _ _ rfl _ _ rfl _ HLX.out ?_); go_simp) | ((refine still_ld _ _ rfl _ _ rfl _ HLC.out ?_); go_simp) | go_simp); refine hK _ ?_; clear hK K)
          refine wpCan_eff rfl ?_
          refine wpList_do rfl (fun K hK => ?_)
          go_simp
          refine HSM2.out.mono ?_
          rintro e10 w10 ⟨rfl, hk10⟩
          have HS10 := Lib.hid (HS9.out.drew.kept hk10)
          clear hk10 HSM2 HLX HLC HS9
          refine hK _ _ ?_
          clear hK K
          refine wpList_nil ?_
          refine And.intro ?_ ?_
          · go_simp
          iterate 2 (refine wpCan_read rfl rfl (fun K hK => ?_); (first | ((refine still_ld _ _ rfl _ _ rfl _ HLX.out ?_); go_simp) | ((refine still_ld _ _ rfl _ _ rfl _ HLC.out ?_); go_simp) | go_simp); refine hK _ ?_; clear hK K)
          refine wpCan_nil ?_
          go_wp2_with fail
          go_roundw
          case rel => exact ⟨i + 1, sm, by go_num, rfl, by omega, HN.out, HS10.out⟩
          case measure => simp [intOf]; omega
        · have HN := Lib.hid (show true = (ds.take (i + 1)).any (fun y => RC.same y.c c.c) by rw [any_snoc _ HY.out, ← HB.out]; rfl)
          clear hy
          have HS10 := Lib.hid HS9.out.drew
          clear HS9
          go_upto_region 21 with fail
          refine wp_region_canon [(0, false, 7), (1, false, 7), (2, false, 7), (3, false, 7), (4, false, 7), (5, false, 7), (6, false, 7), (7, true, 0), (8, false, 999), (9, false, 999)] (by kernel_rfl) (by kernel_rfl) ?_
          iterate 2 (refine wpCan_read rfl rfl (fun K hK => ?_); go_simp; refine hK _ ?_; clear hK K)
          first | (refine wpCan_no rfl rfl ?_; simp only [Act.put, List.setIfInBounds_toArray, List.set_cons_succ, List.set_cons_zero, List.getElem_toArray, List.getElem_cons_succ, List.getElem_cons_zero]) | (refine wpCan_yes rfl rfl (fun K hK => ?_); go_simp; refine hK _ ?_; clear hK K)
          first | (refine wpCan_no rfl rfl ?_; simp only [Act.put, List.setIfInBounds_toArray, List.set_cons_succ, List.set_cons_zero, List.getElem_toArray, List.getElem_cons_succ, List.getElem_cons_zero]) | (refine wpCan_yes rfl rfl (fun K hK => ?_); go_simp; refine hK _ ?_; clear hK K)
          first | (refine wpCan_no rfl rfl ?_; simp only [Act.put, List.setIfInBounds_toArray, List.set_cons_succ, List.set_cons_zero, List.getElem_toArray, List.getElem_cons_succ, List.getElem_cons_zero]) | (refine wpCan_yes rfl rfl (fun K hK => ?_); go_simp; refine hK _ ?_; clear hK K)
          first | (refine wpCan_no rfl rfl ?_; simp only [Act.put, List.setIfInBounds_toArray, List.set_cons_succ, List.set_cons_zero, List.getElem_toArray, List.getElem_cons_succ, List.getElem_cons_zero]) | (refine wpCan_yes rfl rfl (fun K hK => ?_); go_simp; refine hK _ ?_; clear hK K)
          first | (refine wpCan_no rfl rfl ?_; simp only [Act.put, List.setIfInBounds_toArray, List.set_cons_succ, List.set_cons_zero, List.getElem_toArray, List.getElem_cons_succ, List.getElem_cons_zero]) | (refine wpCan_yes rfl rfl (fun K hK => ?_); go_simp; refine hK _ ?_; clear hK K)
          refine wpCan_eff rfl ?_
          refine wpList_not rfl ?_
          simp only [Act.put, List.setIfInBounds_toArray, List.set_cons_succ, List.set_cons_zero]
          refine wpList_nil ?_
          refine And.intro ?_ ?_
          · go_simp
          iterate 2 (refine wpCan_read rfl rfl (fun K hK => ?_); go_simp; refine hK _ ?_; clear hK K)
          refine wpCan_nil ?_
          go_wp2_with fail
          go_roundw
          case rel => exact ⟨i + 1, true, by go_num, rfl, by omega, HN.out, HS10.out⟩
          case measure => simp [intOf]; omega
      · have hii : ¬ ((i : Int) < (ds.length : Int)) := by omega
        have HBB := Lib.hid (show b = ds.any (fun y => RC.same y.c c.c) by rw [HB.out, List.take_of_length_le (by omega)])
        have y0 := (boxClm (HS9.out.blk 3 rfl)).1
        have hge1 : decide (cs.length ≤ ds.length) = true := decide_eq_true HLE5.out.1
        have hge2 : cs.length ≤ ds.length := HLE5.out.1
        by_cases g1 : 1 ≤ c.kind
        · by_cases g2 : c.kind ≤ 3
          · have HBT := Lib.hid (show b = true by
              rw [HBB.out, List.any_eq_true]
              obtain ⟨u, hu, hs⟩ := HSMX.out (clmSame_self ⟨g1, g2⟩)
              rw [← HDM.out] at hu
              obtain ⟨y, hy, rfl⟩ := List.mem_map.1 hu
              exact ⟨y, hy, hs⟩)
            have hLN := Len_C (show X.1.held.length + X.1.waits.length ≤ 1000000 by have := HTT.out; omega) (HS9.out.front 1 rfl)
            rw [HTT.out] at hLN
            have HLN := Lib.hid hLN
            obtain ⟨dd, hdd⟩ : ∃ dd : Int, (ds.length : Int) - (cs.length : Int) = dd := ⟨_, rfl⟩
            have hdd2 : (TT : Int) - (nn : Int) = dd := by have := HLE5.out.2.1; omega
            have hTTb : TT ≤ 41 := hXl
            rw [HBT.out]
            clear hLN
            go_wp2_with (go_at_call 28; refine HLN.out.mono ?_; rintro e11 w11 ⟨rfl, hk11⟩; have HS11 := Lib.hid (HS9.out.kept hk11); clear hk11 HLN HS9 y0)
            go_ret
            exact ⟨rfl, HEND.out D2 _ HLE2.out HS11.out.drop.drop.drop.drop⟩
          · go_wp2_with fail
            go_ret
            exact ⟨rfl, HEND.out D2 _ HLE2.out HS9.out.drop.drop.drop.drop⟩
        · go_wp2_with fail
          go_ret
          exact ⟨rfl, HEND.out D2 _ HLE2.out HS9.out.drop.drop.drop.drop⟩
end Go.Proofs.YtkdinhlmghfpeaaGreatDoor
