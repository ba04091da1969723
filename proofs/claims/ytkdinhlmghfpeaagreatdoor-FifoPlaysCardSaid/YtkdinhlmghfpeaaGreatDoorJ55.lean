/- A queue under any script is what is told (the law FifoPlays). -/
import Derived.Test.YtkdinhlmghfpeaaGreatDoorJ52
import Derived.Test.YtkdinhlmghfpeaaGreatDoorJ54
namespace Go.Proofs.YtkdinhlmghfpeaaGreatDoor
open Go.ChangeShapes Go.WideShapes Go.ChangeAt Go.RowKit
set_option maxRecDepth 100000
set_option linter.unusedSimpArgs false

theorem allOk_cons {P : Program} {ops : Array Oper} {i : Nat} {x : Pend} {l : List Pend} {w : World} (h1 : x.ok P ops w) (h2 : allOk P ops i l w) : allOk P ops i (x :: l) w := by
  unfold allOk
  split
  · exact h2
  · exact ⟨h1, h2⟩
theorem pend_ld {P : Program} {ops : Array Oper} {x : Pend} {w : World} (ty : TypeId) (y : Operand) (ho : x.o.op = .load ty y) (b i : Nat) (hy : x.a.eval y = .pointer (some ⟨b, i, none⟩)) (cs : List Value)
    (hl : (loadVar ty ⟨b, i, none⟩).run P w = .ok (.agg cs.toArray) w) (hb : x.a.put x.o.dst (.agg cs.toArray) = x.b) : x.ok P ops w := by
  unfold Pend.ok
  split
  · exact still_ld ty y ho b i hy cs hl hb
  · trivial
set_option maxHeartbeats 64000000 in
theorem playsLaw_ok {W : World} {v : Value} {acts : List ActE} (tb : EnvD (heapOf W)) (hv : ActsRd W v acts) :
    Calls Tryz.prog 6 #[v] W fun r w' => r = .returned (.bool true) ∧ Kept (fun _ => False) W w' := by
  obtain ⟨D, hD⟩ : ∃ D, heapOf W = D := ⟨_, rfl⟩
  have HV := Lib.hid (show ActsD D v acts by rw [← hD]; exact ActsD.of_rd hv)
  have HE := Lib.hid (show EnvD D by rw [← hD]; exact tb)
  have HAW := Lib.hid (awake_ok HE.out (show Sat W D W [] by rw [← hD]; exact Sat.start W))
  have HEND := Lib.hid (show ∀ (D' : PH) (w' : World), PH.le D D' → Sat W D' w' [] → Kept (fun _ => False) W w' from fun D' w' hle hs => hs.end_ (by rw [hD]; exact hle))
  obtain ⟨a, c, rfl, hN⟩ := HV.out.shape
  clear hv tb hD
  go_enter Tryz.func6, Tryz.ntmps6
  go_upto_region 4 with (go_at_call 11; refine HAW.out.mono ?_; rintro e1 w1 ⟨rfl, hs1⟩; have HNEW := Lib.hid (Claims_new hs1); clear hs1 HAW)
  go_upto_region 6 with (go_at_call 25; refine HNEW.out.mono ?_; rintro e2 w2 ⟨q, rfl, hs2⟩; have HS1 := Lib.hid (hs2.alloc nQ tRq); clear hs2 HNEW)
  obtain ⟨W2, hW2, hs2⟩ := Sat.hide HS1.out
  rw [← hW2]
  clear hW2 HS1
  generalize w2.heap.size = b5 at hs2 ⊢
  have HS2 := Lib.hid hs2
  clear hs2
  go_wp2_with fail
  go_loopw [6] (fun ii wr => ∃ (j : Nat) (D1 : PH) (hv wv : Value), ii = .int .i64 j ∧ j ≤ acts.length ∧ j ≤ 40 ∧ PH.le D D1 ∧ QueD D1 (.agg #[hv, wv]) (runQ (acts.take j)) ∧ Sat W D1 wr [blk b5 #[hv, wv] tRq, queC D1 q (runQ (acts.take j))]) (fun ii _ => 40 - (intOf ii).toNat)
  case atStart => exact ⟨0, D, .slice none 0 0, .slice none 0 0, rfl, Nat.zero_le _, by omega, PH.le.refl _, ⟨_, _, [], [], rfl, ⟨RdP.nil D 18, fun e he => (by cases he)⟩, ⟨RdP.nil D 18, fun e he => (by cases he)⟩, rfl, rfl⟩, HS2.out⟩
  case round =>
    obtain ⟨j, D1, hv, wv, rfl, hj, hj40, hle, hq, hs⟩ := hrel
    have HLE := Lib.hid hle
    have HQ := Lib.hid hq
    have HS := Lib.hid hs
    clear hle hq hs HS2
    by_cases hlt : j < acts.length ∧ j < 40
    · have hji : (j : Int) < (acts.length : Int) := by omega
      have hji2 : (j : Int) < 40 := by omega
      obtain ⟨x, hx⟩ : ∃ x, acts[j]? = some x := ⟨acts[j]'hlt.1, List.getElem?_eq_getElem _⟩
      obtain ⟨g, og, hg, hr, hr2, hok, hfit⟩ := actAt (HV.out.mono HLE.out) HS.out rfl hx
      subst hg
      have HSC := Lib.hid (show ScOk (acts.take j).length (runQ (acts.take j)) from runQ_sc (fun y hy => (HV.out.2 y (List.mem_of_mem_take hy)).2))
      have hsl : (acts.take j).length ≤ 900 := by rw [List.length_take]; omega
      have HSC2 := Lib.hid ((show ScOk (acts.take (j + 1)).length (runQ (acts.take (j + 1))) from runQ_sc (fun y hy => (HV.out.2 y (List.mem_of_mem_take hy)).2)).mono (show (acts.take (j + 1)).length ≤ 41 by rw [List.length_take]; omega))
      have HSN := Lib.hid (runQ_snoc hx)
      have HX := Lib.hid hx
      have HOK := Lib.hid hok
      have HFIT := Lib.hid hfit
      have HL := Lib.hid (loadCl hr2)
      have HFW := Lib.hid (few_ok (hok.rd HS.out))
      clear hx hr hr2 hok hfit
      cases hfew : fewB x.x.c
      · rw [hfew] at HFW
        clear hfew
        go_wp2_with (first | (refine wpList_ld rfl _ _ rfl _ _ rfl _ HL.out ?_) | (go_at_call 26; refine HFW.out.mono ?_; rintro e5 w5 ⟨rfl, hk5⟩; have HS5 := Lib.hid (HS.out.kept hk5); clear hk5 HS HFW HL))
        go_ret
        exact ⟨rfl, HEND.out D1 _ HLE.out HS5.out.drop.drop⟩
      · rw [hfew] at HFW
        have HST := Lib.hid (show runQ (acts.take (j + 1)) = doneA (runQ (acts.take j)) x by rw [HSN.out]; unfold stepQ; rw [hfew]; rfl)
        have HF := Lib.hid hfew
        clear hfew
        go_upto_region 12 with (first | (refine wpList_ld rfl _ _ rfl _ _ rfl _ HL.out ?_) | (go_at_call 26; refine HFW.out.mono ?_; rintro e5 w5 ⟨rfl, hk5⟩; have HS4 := Lib.hid (HS.out.kept hk5); clear hk5 HS HFW HL))
        have HS5 := Lib.hid HS4.out.drew
        obtain ⟨g2, og2, hg2, hr, _⟩ := actAt (HV.out.mono HLE.out) HS5.out rfl HX.out
        cases hg2
        have HLA := Lib.hid (loadAct hr)
        have HLQ := Lib.hid (loadQ2 (blk_range (HS5.out.blk 0 rfl)))
        clear hr
        refine wp_region_tr (.rd 0 6 (.rd 1 6 (.rd 2 6 (.rd 3 6 (.rd 4 6 (.rd 5 6 (.ef 6 (.rd 7 11 (.rd 8 11 (.rd 9 999 (.ef 10 (.ef 11 (.rd 12 999 .nil) .nil) .nil)))) (.ef 10 (.ef 6 (.rd 7 11 (.rd 8 11 (.rd 9 999 (.ef 11 (.rd 12 999 .nil) .nil)))) .nil) .nil)))))))) [6, 10, 11] (by kernel_rfl) (by kernel_rfl) ?_
        iterate 6 (refine wpTr_read rfl rfl (fun K hK => ?_); (first | ((refine still_ld _ _ rfl _ _ rfl _ HLQ.out ?_); go_simp) | ((refine still_ld _ _ rfl _ _ rfl _ HLA.out ?_); go_simp) | go_simp); refine hK _ ?_; clear hK K)
        refine wpTr_two rfl rfl ?_ ?_
        focus
          skip
          have HDN := Lib.hid (done_ok x (HE.out.mono HLE.out) HQ.out HSC.out hsl HOK.out HFIT.out HF.out HS5.out.swap)
          refine wpList_do rfl (fun K hK => ?_)
          go_simp
          refine HDN.out.mono ?_
          rintro e6 w6 ⟨v6, D6, rfl, hle6, hq6, hs6⟩
          have HQ6 := Lib.hid hq6
          obtain ⟨hv2, wv2, hs2', ws2', rfl, hH2, hW2, _, _⟩ := hq6
          have HO2 := Lib.hid (show ∀ u ∈ [hv2, wv2], u.oneCell' = true from fun u hu => by simp at hu; rcases hu with rfl | rfl; exact hH2.1.oneV; exact hW2.1.oneV)
          have HLE6 := Lib.hid hle6
          have HS6 := Lib.hid hs6
          clear hle6 hs6 hH2 hW2 HDN HLA HLQ HS5 HS4
          refine hK _ _ ?_
          clear hK K
          refine wpList_nil ?_
          refine And.intro ?_ ?_
          · go_simp
          iterate 3 (refine wpTr_read rfl rfl (fun K hK => ?_); go_simp; refine hK _ ?_; clear hK K)
          refine wpTr_eff rfl ?_
          refine wpList_plain rfl (fun K hK => ?_)
          go_simp
          refine hK _ _ ?_
          clear hK K
          refine wpList_nil ?_
          obtain ⟨W7, hW7, hs7⟩ := Sat.hide (HS6.out.alloc nQ tRq)
          rw [← hW7]
          generalize w6.heap.size = bn at hs7 ⊢
          have HS7 := Lib.hid (show Sat W D6 W7 [blk bn nQ tRq, queC D6 q (doneA (runQ (acts.take j)) x), blk b5 #[hv, wv] tRq] from hs7)
          clear hW7 hs7 HS6
          refine And.intro ?_ ?_
          · go_simp
          refine wpTr_eff rfl ?_
          refine wpList_store_whole rfl _ _ _ rfl tRq bn rfl [hv2, wv2] rfl nQ HS7.out (by kernel_rfl) rfl HO2.out ?_
          intro w9 hs9
          have HS9 := Lib.hid hs9
          clear hs9 HS7
          refine wpList_nil ?_
          refine And.intro ?_ ?_
          · go_simp
          iterate 1 (refine wpTr_read rfl rfl (fun K hK => ?_); go_simp; refine hK _ ?_; clear hK K)
          refine wpTr_nil ?_
        rotate_left
        focus
          skip
          refine wpList_plain rfl (fun K hK => ?_)
          go_simp
          refine hK _ _ ?_
          clear hK K
          refine wpList_nil ?_
          obtain ⟨W7, hW7, hs7⟩ := Sat.hide ((HS4.out.alloc nQ tRq).drew)
          rw [← hW7]
          generalize w5.heap.size = bn at hs7 ⊢
          obtain ⟨g2, og2, hg2, hr, _⟩ := actAt (HV.out.mono HLE.out) hs7 rfl HX.out
          cases hg2
          clear HLA HLQ
          have HLA := Lib.hid (loadAct hr)
          have HLQ := Lib.hid (loadQ2 (blk_range (hs7.blk 1 rfl)))
          have HDN := Lib.hid (done_ok x (HE.out.mono HLE.out) HQ.out HSC.out hsl HOK.out HFIT.out HF.out (hs7.front 2 rfl))
          clear hW7 hs7 HS4 HS5 hr
          refine And.intro ?_ ?_
          · (refine allOk_cons ?_ (allOk_cons ?_ (allOk_cons ?_ (allOk_cons ?_ (allOk_cons ?_ (allOk_cons ?_ (by unfold allOk; trivial)))))) <;> first | exact pend_ld _ _ rfl _ _ rfl _ HLQ.out rfl | exact pend_ld _ _ rfl _ _ rfl _ HLA.out rfl | go_simp)
          refine wpTr_eff rfl ?_
          refine wpList_do rfl (fun K hK => ?_)
          go_simp
          refine HDN.out.mono ?_
          rintro e6 w6 ⟨v6, D6, rfl, hle6, hq6, hs6⟩
          have HQ6 := Lib.hid hq6
          obtain ⟨hv2, wv2, hs2', ws2', rfl, hH2, hW2, _, _⟩ := hq6
          have HO2 := Lib.hid (show ∀ u ∈ [hv2, wv2], u.oneCell' = true from fun u hu => by simp at hu; rcases hu with rfl | rfl; exact hH2.1.oneV; exact hW2.1.oneV)
          have HLE6 := Lib.hid hle6
          have HS7 := Lib.hid (show Sat W D6 w6 [blk bn nQ tRq, queC D6 q (doneA (runQ (acts.take j)) x), blk b5 #[hv, wv] tRq] from hs6.swap)
          clear hle6 hs6 hH2 hW2 HDN HLA HLQ
          refine hK _ _ ?_
          clear hK K
          refine wpList_nil ?_
          refine And.intro ?_ ?_
          · go_simp
          iterate 3 (refine wpTr_read rfl rfl (fun K hK => ?_); go_simp; refine hK _ ?_; clear hK K)
          refine wpTr_eff rfl ?_
          refine wpList_store_whole rfl _ _ _ rfl tRq bn rfl [hv2, wv2] rfl nQ HS7.out (by kernel_rfl) rfl HO2.out ?_
          intro w9 hs9
          have HS9 := Lib.hid hs9
          clear hs9 HS7
          refine wpList_nil ?_
          refine And.intro ?_ ?_
          · go_simp
          iterate 1 (refine wpTr_read rfl rfl (fun K hK => ?_); go_simp; refine hK _ ?_; clear hK K)
          refine wpTr_nil ?_
        all_goals
          obtain ⟨Q, hQQ⟩ : ∃ Q, runQ (acts.take (j + 1)) = Q := ⟨_, rfl⟩
          have HRQ := Lib.hid hQQ
          have hdq : doneA (runQ (acts.take j)) x = Q := HST.out.symm.trans hQQ
          rw [hdq] at HQ6 HS9
          rw [hQQ] at HSC2
          clear hQQ hdq HST HSN HQ HSC
          obtain ⟨hv', wv', hs, ws, hvv, hH, hW, hhq, hwq⟩ := id HQ6.out
          obtain ⟨ha, hcp, rfl⟩ := hH.1.shape
          obtain ⟨wa, wc, rfl⟩ := hW.1.shape
          obtain ⟨rfl, rfl⟩ : hv2 = .slice ha hs.length hcp ∧ wv2 = .slice wa ws.length wc := by simpa using hvv
          have HHL := Lib.hid (show hs.length = Q.held.length ∧ ws.length = Q.waits.length from ⟨by rw [← hhq, List.length_map], by rw [← hwq, List.length_map]⟩)
          have hql := HSC2.out.len
          have hsl2 : hs.length + ws.length ≤ 41 := by have := HHL.out; omega
          clear hvv hH hW hhq hwq
          have HLN := Lib.hid (loadQ2 (blk_range (HS9.out.blk 0 rfl)))
          have HS10 := Lib.hid (HS9.out.front 2 rfl)
          clear HS9
          go_upto_region 14 with (first | (refine wpList_ld rfl _ _ rfl _ _ rfl _ HLN.out ?_) | (refine wpList_store_whole rfl _ _ _ rfl tRq b5 rfl [.slice ha hs.length hcp, .slice wa ws.length wc] rfl _ HS10.out (by kernel_rfl) rfl HO2.out ?_; intro w11 hs11; have HS11 := Lib.hid hs11.swap.drop; clear hs11 HS10 HLN))
          have HS11d := Lib.hid HS11.out.drew
          clear HS11
          have hM2 : Q.held.length + Q.waits.length ≤ 1000000 := by omega
          have hlc := Len_C hM2 HS11d.out.swap
          rw [show ((Q.held.length + Q.waits.length : Nat) : Int) = (hs.length : Int) + (ws.length : Int) by have := HHL.out; omega] at hlc
          have HLC := Lib.hid hlc
          obtain ⟨q0, q1, qf⟩ := cells2 (HS11d.out.blk 0 rfl)
          clear hlc
          have hwr : IntKind.i64.wrap ((hs.length : Int) + (ws.length : Int)) = (hs.length : Int) + (ws.length : Int) := IntWalk.i64_in _ (by omega)
          refine wp_region_canon [(0, false, 4), (1, false, 4), (2, false, 4), (3, false, 4), (5, false, 999), (6, false, 999), (7, false, 999), (8, false, 999), (9, false, 999), (10, false, 999), (11, false, 999), (4, true, 0), (12, false, 999), (13, false, 999)] (by kernel_rfl) (by kernel_rfl) ?_
          iterate 3 (refine wpCan_read rfl rfl (fun K hK => ?_); go_simp; refine hK _ ?_; clear hK K)
          first | (refine wpCan_no rfl rfl ?_; simp only [Act.put, List.setIfInBounds_toArray, List.set_cons_succ, List.set_cons_zero, List.getElem_toArray, List.getElem_cons_succ, List.getElem_cons_zero]) | (refine wpCan_yes rfl rfl (fun K hK => ?_); go_simp; refine hK _ ?_; clear hK K)
          first | (refine wpCan_no rfl rfl ?_; simp only [Act.put, List.setIfInBounds_toArray, List.set_cons_succ, List.set_cons_zero, List.getElem_toArray, List.getElem_cons_succ, List.getElem_cons_zero]) | (refine wpCan_yes rfl rfl (fun K hK => ?_); go_simp; refine hK _ ?_; clear hK K)
          first | (refine wpCan_no rfl rfl ?_; simp only [Act.put, List.setIfInBounds_toArray, List.set_cons_succ, List.set_cons_zero, List.getElem_toArray, List.getElem_cons_succ, List.getElem_cons_zero]) | (refine wpCan_yes rfl rfl (fun K hK => ?_); go_simp; refine hK _ ?_; clear hK K)
          first | (refine wpCan_no rfl rfl ?_; simp only [Act.put, List.setIfInBounds_toArray, List.set_cons_succ, List.set_cons_zero, List.getElem_toArray, List.getElem_cons_succ, List.getElem_cons_zero]) | (refine wpCan_yes rfl rfl (fun K hK => ?_); go_simp; refine hK _ ?_; clear hK K)
          first | (refine wpCan_no rfl rfl ?_; simp only [Act.put, List.setIfInBounds_toArray, List.set_cons_succ, List.set_cons_zero, List.getElem_toArray, List.getElem_cons_succ, List.getElem_cons_zero]) | (refine wpCan_yes rfl rfl (fun K hK => ?_); go_simp; refine hK _ ?_; clear hK K)
          first | (refine wpCan_no rfl rfl ?_; simp only [Act.put, List.setIfInBounds_toArray, List.set_cons_succ, List.set_cons_zero, List.getElem_toArray, List.getElem_cons_succ, List.getElem_cons_zero]) | (refine wpCan_yes rfl rfl (fun K hK => ?_); go_simp; refine hK _ ?_; clear hK K)
          first | (refine wpCan_no rfl rfl ?_; simp only [Act.put, List.setIfInBounds_toArray, List.set_cons_succ, List.set_cons_zero, List.getElem_toArray, List.getElem_cons_succ, List.getElem_cons_zero]) | (refine wpCan_yes rfl rfl (fun K hK => ?_); go_simp; refine hK _ ?_; clear hK K)
          first | (refine wpCan_no rfl rfl ?_; simp only [Act.put, List.setIfInBounds_toArray, List.set_cons_succ, List.set_cons_zero, List.getElem_toArray, List.getElem_cons_succ, List.getElem_cons_zero]) | (refine wpCan_yes rfl rfl (fun K hK => ?_); go_simp; refine hK _ ?_; clear hK K)
          refine wpCan_eff rfl ?_
          refine wpList_do rfl (fun K hK => ?_)
          go_simp
          refine HLC.out.mono ?_
          rintro e12 w12 ⟨rfl, hk12⟩
          have HS12 := Lib.hid (HS11d.out.kept hk12)
          clear hk12 HS11d HLC q0 q1 qf
          obtain ⟨q0, q1, qf⟩ := cells2 (HS12.out.blk 0 rfl)
          refine hK _ _ ?_
          clear hK K
          refine wpList_nil ?_
          refine And.intro ?_ ?_
          · go_simp
          first | (refine wpCan_no rfl rfl ?_; simp only [Act.put, List.setIfInBounds_toArray, List.set_cons_succ, List.set_cons_zero, List.getElem_toArray, List.getElem_cons_succ, List.getElem_cons_zero]) | (refine wpCan_yes rfl rfl (fun K hK => ?_); go_simp; refine hK _ ?_; clear hK K)
          iterate 1 (refine wpCan_read rfl rfl (fun K hK => ?_); go_simp; refine hK _ ?_; clear hK K)
          refine wpCan_nil ?_
          have HOKQ := Lib.hid HSC2.out.ok
          have hh : Q.held.length ≤ 100000 := by omega
          have hh1 : Q.held.length ≤ 1000 := by omega
          have hMb : Q.held.length + Q.waits.length ≤ 100000 := by omega
          have hMc : Q.held.length + Q.waits.length ≤ 900 := by omega
          have HLE7 := Lib.hid (HLE.out.trans HLE6.out)
          clear q0 q1 qf HO2
          go_wp2_with fail
          clear hwr
          go_loopw [10] (fun ii wr => ∃ (k : Nat) (D2 : PH), ii = .int .i64 k ∧ k ≤ 8 ∧ PH.le D6 D2 ∧ Sat W D2 wr [blk b5 #[.slice ha hs.length hcp, .slice wa ws.length wc] tRq, queC D2 q Q]) (fun ii _ => 8 - (intOf ii).toNat)
          case atStart => exact ⟨0, D6, rfl, by omega, PH.le.refl _, HS12.out⟩
          case round =>
            obtain ⟨k, D2, rfl, hk8, hle2, hs13⟩ := hrel
            have HLE2 := Lib.hid hle2
            have HS13 := Lib.hid hs13
            clear hle2 hs13 HS12
            by_cases hk : k < 8
            · have hkk : (k : Int) < 8 := by omega
              have HED := Lib.hid (HE.out.mono (HLE7.out.trans HLE2.out))
              have HQ2 := Lib.hid (HQ6.out.mono HLE2.out)
              have HWA := Lib.hid (Waits_C (k : Int) HS13.out.swap)
              clear HS13
              go_upto_region 20 with (first | (go_at_call 29; refine HWA.out.mono ?_; rintro e14 w14 ⟨z1, rfl, hz1, hok1, hs14⟩; have HZ1 := Lib.hid hz1; have HOK1 := Lib.hid hok1; have HS14 := Lib.hid (hs14.alloc z1.cells.toArray tCl); clear hz1 hok1 hs14 HWA) | (refine wpList_store_new rfl _ _ _ rfl z1.cells _ _ rfl rfl (by kernel_rfl) rfl (ClmE.one _) ?_))
              obtain ⟨W15, hW15, hs15⟩ := Sat.hide HS14.out
              rw [← hW15]
              generalize w14.heap.size = bz1 at hs15 ⊢
              have HS15 := Lib.hid hs15
              have HLQ := Lib.hid (loadQ2 (blk_range (hs15.blk 2 rfl)))
              have HWG := Lib.hid (rqWaiting_ok (k : Int) HQ2.out hs15)
              clear hW15 hs15 HS14
              go_upto_region 21 with (first | (refine wpList_ld rfl _ _ rfl _ _ rfl _ HLQ.out ?_) | (go_at_call 30; refine HWG.out.mono ?_; rintro e16 w16 ⟨z2, rfl, hz2, hok2, _, hs16⟩; have HZE := Lib.hid (HZ1.out.trans hz2.symm); have HOK2 := Lib.hid hok2; have HS16 := Lib.hid (hs16.alloc z2.cells.toArray tCl); clear hz2 hok2 hs16 HWG HLQ HS15) | (refine wpList_store_new rfl _ _ _ rfl z2.cells _ _ rfl rfl (by kernel_rfl) rfl (ClmE.one _) ?_))
              obtain ⟨W17, hW17, hs17⟩ := Sat.hide HS16.out
              rw [← hW17]
              generalize w16.heap.size = bz2 at hs17 ⊢
              have HS17 := Lib.hid hs17.drew
              have HL1 := Lib.hid (loadCl (w := W17.drew) (blk_range (hs17.drew.blk 1 rfl)))
              have HL2 := Lib.hid (loadCl (w := W17.drew) (blk_range (hs17.drew.blk 0 rfl)))
              have HEE := Lib.hid (rEqual_eq (w := W17.drew) (HOK1.out.rd hs17.drew) (HOK2.out.rd hs17.drew) HZE.out)
              obtain ⟨q0, q1, qf⟩ := cells2 (hs17.blk 3 rfl)
              clear hW17 hs17 HS16
              generalize (waitsQ Q (k : Int)).2 = bw
              refine wp_region_canon [(0, false, 6), (1, false, 6), (2, false, 6), (3, false, 6), (4, false, 6), (5, false, 6), (6, true, 0), (7, false, 12), (8, false, 12), (9, false, 12), (10, false, 12), (11, false, 12), (13, false, 15), (14, false, 15), (12, true, 0), (15, true, 0), (16, true, 0), (17, false, 22), (18, false, 22), (19, false, 22), (20, false, 22), (21, false, 22), (23, false, 25), (24, false, 25), (22, true, 0), (25, true, 0), (26, true, 0), (27, false, 999), (28, false, 999)] (by kernel_rfl) (by kernel_rfl) ?_
              iterate 4 (refine wpCan_read rfl rfl (fun K hK => ?_); (first | ((refine still_ld _ _ rfl _ _ rfl _ HL1.out ?_); go_simp) | ((refine still_ld _ _ rfl _ _ rfl _ HL2.out ?_); go_simp) | go_simp); refine hK _ ?_; clear hK K)
              first | (refine wpCan_no rfl rfl ?_; simp only [Act.put, List.setIfInBounds_toArray, List.set_cons_succ, List.set_cons_zero, List.getElem_toArray, List.getElem_cons_succ, List.getElem_cons_zero]) | (refine wpCan_yes rfl rfl (fun K hK => ?_); (first | ((refine still_ld _ _ rfl _ _ rfl _ HL1.out ?_); go_simp) | ((refine still_ld _ _ rfl _ _ rfl _ HL2.out ?_); go_simp) | go_simp); refine hK _ ?_; clear hK K)
              first | (refine wpCan_no rfl rfl ?_; simp only [Act.put, List.setIfInBounds_toArray, List.set_cons_succ, List.set_cons_zero, List.getElem_toArray, List.getElem_cons_succ, List.getElem_cons_zero]) | (refine wpCan_yes rfl rfl (fun K hK => ?_); (first | ((refine still_ld _ _ rfl _ _ rfl _ HL1.out ?_); go_simp) | ((refine still_ld _ _ rfl _ _ rfl _ HL2.out ?_); go_simp) | go_simp); refine hK _ ?_; clear hK K)
              refine wpCan_eff rfl ?_
              refine wpList_do rfl (fun K hK => ?_)
              go_simp
              refine HEE.out.mono ?_
              rintro ea wa' ⟨rfl, hka⟩
              have hsa := (HS17.out.kept hka).front 2 rfl
              clear q0 q1 qf
              obtain ⟨q0, q1, qf⟩ := cells2 (hsa.blk 3 rfl)
              have HHC := Lib.hid (Holds_C (k : Int) hh hsa)
              clear hka hsa HS17 HEE HL1 HL2
              refine hK _ _ ?_
              clear hK K
              refine wpList_nil ?_
              refine And.intro ?_ ?_
              · go_simp
              first | (refine wpCan_no rfl rfl ?_; simp only [Act.put, List.setIfInBounds_toArray, List.set_cons_succ, List.set_cons_zero, List.getElem_toArray, List.getElem_cons_succ, List.getElem_cons_zero]) | (refine wpCan_yes rfl rfl (fun K hK => ?_); (first | ((refine still_ld _ _ rfl _ _ rfl _ HL1.out ?_); go_simp) | ((refine still_ld _ _ rfl _ _ rfl _ HL2.out ?_); go_simp) | go_simp); refine hK _ ?_; clear hK K)
              iterate 2 (refine wpCan_read rfl rfl (fun K hK => ?_); (first | ((refine still_ld _ _ rfl _ _ rfl _ HL1.out ?_); go_simp) | ((refine still_ld _ _ rfl _ _ rfl _ HL2.out ?_); go_simp) | go_simp); refine hK _ ?_; clear hK K)
              first | (refine wpCan_no rfl rfl ?_; simp only [Act.put, List.setIfInBounds_toArray, List.set_cons_succ, List.set_cons_zero, List.getElem_toArray, List.getElem_cons_succ, List.getElem_cons_zero]) | (refine wpCan_yes rfl rfl (fun K hK => ?_); (first | ((refine still_ld _ _ rfl _ _ rfl _ HL1.out ?_); go_simp) | ((refine still_ld _ _ rfl _ _ rfl _ HL2.out ?_); go_simp) | go_simp); refine hK _ ?_; clear hK K)
              first | (refine wpCan_no rfl rfl ?_; simp only [Act.put, List.setIfInBounds_toArray, List.set_cons_succ, List.set_cons_zero, List.getElem_toArray, List.getElem_cons_succ, List.getElem_cons_zero]) | (refine wpCan_yes rfl rfl (fun K hK => ?_); (first | ((refine still_ld _ _ rfl _ _ rfl _ HL1.out ?_); go_simp) | ((refine still_ld _ _ rfl _ _ rfl _ HL2.out ?_); go_simp) | go_simp); refine hK _ ?_; clear hK K)
              first | (refine wpCan_no rfl rfl ?_; simp only [Act.put, List.setIfInBounds_toArray, List.set_cons_succ, List.set_cons_zero, List.getElem_toArray, List.getElem_cons_succ, List.getElem_cons_zero]) | (refine wpCan_yes rfl rfl (fun K hK => ?_); (first | ((refine still_ld _ _ rfl _ _ rfl _ HL1.out ?_); go_simp) | ((refine still_ld _ _ rfl _ _ rfl _ HL2.out ?_); go_simp) | go_simp); refine hK _ ?_; clear hK K)
              first | (refine wpCan_no rfl rfl ?_; simp only [Act.put, List.setIfInBounds_toArray, List.set_cons_succ, List.set_cons_zero, List.getElem_toArray, List.getElem_cons_succ, List.getElem_cons_zero]) | (refine wpCan_yes rfl rfl (fun K hK => ?_); (first | ((refine still_ld _ _ rfl _ _ rfl _ HL1.out ?_); go_simp) | ((refine still_ld _ _ rfl _ _ rfl _ HL2.out ?_); go_simp) | go_simp); refine hK _ ?_; clear hK K)
              refine wpCan_eff rfl ?_
              refine wpList_do rfl (fun K hK => ?_)
              go_simp
              refine HHC.out.mono ?_
              rintro eb wb ⟨vb, rfl, hsb⟩
              obtain ⟨cs, hcm, hco, hsc⟩ := clmsOpen hsb
              obtain ⟨ab, cb, rfl⟩ := hsc.own_shape
              have HCM := Lib.hid hcm
              have HCO := Lib.hid hco
              clear q0 q1 qf
              obtain ⟨q0, q1, qf⟩ := cells2 (hsc.blk 4 rfl)
              have HRH := Lib.hid (rqHolds_ok (k : Int) HQ2.out hh1 hsc)
              clear hcm hco hsb hsc HHC
              refine hK _ _ ?_
              clear hK K
              refine wpList_nil ?_
              refine And.intro ?_ ?_
              · go_simp
              refine wpCan_eff rfl ?_
              refine wpList_do rfl (fun K hK => ?_)
              go_simp
              refine HRH.out.mono ?_
              rintro ec wc' ⟨vc, ds, D7, rfl, hle7, hcd, hdm, hsd⟩
              clear q0 q1 qf
              obtain ⟨q0, q1, qf⟩ := cells2 (hsd.blk 4 rfl)
              have HLEb := Lib.hid hle7
              have HSA := Lib.hid (rqSame_ok ⟨(hsd.own 0 rfl).rd, fun y hy => ((HCO.out y hy).mono hle7).rd hsd⟩ ⟨hcd.1.rd hsd, fun y hy => (hcd.2 y hy).rd hsd⟩ (HCM.out.trans hdm.symm))
              have HSD := Lib.hid hsd
              clear hle7 hcd hdm hsd HRH
              refine hK _ _ ?_
              clear hK K
              refine wpList_nil ?_
              refine And.intro ?_ ?_
              · go_simp
              refine wpCan_eff rfl ?_
              refine wpList_do rfl (fun K hK => ?_)
              go_simp
              refine HSA.out.mono ?_
              rintro ed wd ⟨rfl, hkd⟩
              have hse := que_mono_C ((HSD.out.kept hkd).drop) HLEb.out
              clear q0 q1 qf
              obtain ⟨q0, q1, qf⟩ := cells2 (hse.blk 3 rfl)
              have HBC := Lib.hid (Blockers_C (k : Int) (HED.out.mono HLEb.out) hMb hse)
              clear hkd hse HSA HSD
              refine hK _ _ ?_
              clear hK K
              refine wpList_nil ?_
              refine And.intro ?_ ?_
              · go_simp
              first | (refine wpCan_no rfl rfl ?_; simp only [Act.put, List.setIfInBounds_toArray, List.set_cons_succ, List.set_cons_zero, List.getElem_toArray, List.getElem_cons_succ, List.getElem_cons_zero]) | (refine wpCan_yes rfl rfl (fun K hK => ?_); (first | ((refine still_ld _ _ rfl _ _ rfl _ HL1.out ?_); go_simp) | ((refine still_ld _ _ rfl _ _ rfl _ HL2.out ?_); go_simp) | go_simp); refine hK _ ?_; clear hK K)
              iterate 2 (refine wpCan_read rfl rfl (fun K hK => ?_); (first | ((refine still_ld _ _ rfl _ _ rfl _ HL1.out ?_); go_simp) | ((refine still_ld _ _ rfl _ _ rfl _ HL2.out ?_); go_simp) | go_simp); refine hK _ ?_; clear hK K)
              first | (refine wpCan_no rfl rfl ?_; simp only [Act.put, List.setIfInBounds_toArray, List.set_cons_succ, List.set_cons_zero, List.getElem_toArray, List.getElem_cons_succ, List.getElem_cons_zero]) | (refine wpCan_yes rfl rfl (fun K hK => ?_); (first | ((refine still_ld _ _ rfl _ _ rfl _ HL1.out ?_); go_simp) | ((refine still_ld _ _ rfl _ _ rfl _ HL2.out ?_); go_simp) | go_simp); refine hK _ ?_; clear hK K)
              first | (refine wpCan_no rfl rfl ?_; simp only [Act.put, List.setIfInBounds_toArray, List.set_cons_succ, List.set_cons_zero, List.getElem_toArray, List.getElem_cons_succ, List.getElem_cons_zero]) | (refine wpCan_yes rfl rfl (fun K hK => ?_); (first | ((refine still_ld _ _ rfl _ _ rfl _ HL1.out ?_); go_simp) | ((refine still_ld _ _ rfl _ _ rfl _ HL2.out ?_); go_simp) | go_simp); refine hK _ ?_; clear hK K)
              first | (refine wpCan_no rfl rfl ?_; simp only [Act.put, List.setIfInBounds_toArray, List.set_cons_succ, List.set_cons_zero, List.getElem_toArray, List.getElem_cons_succ, List.getElem_cons_zero]) | (refine wpCan_yes rfl rfl (fun K hK => ?_); (first | ((refine still_ld _ _ rfl _ _ rfl _ HL1.out ?_); go_simp) | ((refine still_ld _ _ rfl _ _ rfl _ HL2.out ?_); go_simp) | go_simp); refine hK _ ?_; clear hK K)
              first | (refine wpCan_no rfl rfl ?_; simp only [Act.put, List.setIfInBounds_toArray, List.set_cons_succ, List.set_cons_zero, List.getElem_toArray, List.getElem_cons_succ, List.getElem_cons_zero]) | (refine wpCan_yes rfl rfl (fun K hK => ?_); (first | ((refine still_ld _ _ rfl _ _ rfl _ HL1.out ?_); go_simp) | ((refine still_ld _ _ rfl _ _ rfl _ HL2.out ?_); go_simp) | go_simp); refine hK _ ?_; clear hK K)
              refine wpCan_eff rfl ?_
              refine wpList_do rfl (fun K hK => ?_)
              go_simp
              refine HBC.out.mono ?_
              rintro ee we ⟨ve, rfl, hsf⟩
              obtain ⟨ae, ce, rfl⟩ := hsf.own_shape
              clear q0 q1 qf
              obtain ⟨q0, q1, qf⟩ := cells2 (hsf.blk 4 rfl)
              have HRB := Lib.hid (rqBlock_ok (k : Int) HOKQ.out (HQ2.out.mono HLEb.out) hMc hsf)
              clear hsf HBC
              refine hK _ _ ?_
              clear hK K
              refine wpList_nil ?_
              refine And.intro ?_ ?_
              · go_simp
              refine wpCan_eff rfl ?_
              refine wpList_do rfl (fun K hK => ?_)
              go_simp
              refine HRB.out.mono ?_
              rintro ef wf ⟨vf, D8, rfl, hle8, hif, hsg⟩
              clear q0 q1 qf
              have HLEc := Lib.hid hle8
              have HIN := Lib.hid (Ints_k (r := true) (hsg.own 0 rfl).rd (hif.rd hsg) (by simp))
              have HSG := Lib.hid hsg
              clear hle8 hif hsg HRB
              refine hK _ _ ?_
              clear hK K
              refine wpList_nil ?_
              refine And.intro ?_ ?_
              · go_simp
              refine wpCan_eff rfl ?_
              refine wpList_do rfl (fun K hK => ?_)
              go_simp
              refine HIN.out.mono ?_
              rintro eg wg ⟨rfl, hkg⟩
              have HSH := Lib.hid ((que_mono_C ((HSG.out.kept hkg).drop.swap.drop.swap.drop |> Sat.swap |> Sat.swap) HLEc.out).swap)
              clear hkg HSG HIN
              refine hK _ _ ?_
              clear hK K
              refine wpList_nil ?_
              refine And.intro ?_ ?_
              · go_simp
              first | (refine wpCan_no rfl rfl ?_; simp only [Act.put, List.setIfInBounds_toArray, List.set_cons_succ, List.set_cons_zero, List.getElem_toArray, List.getElem_cons_succ, List.getElem_cons_zero]) | (refine wpCan_yes rfl rfl (fun K hK => ?_); (first | ((refine still_ld _ _ rfl _ _ rfl _ HL1.out ?_); go_simp) | ((refine still_ld _ _ rfl _ _ rfl _ HL2.out ?_); go_simp) | go_simp); refine hK _ ?_; clear hK K)
              iterate 1 (refine wpCan_read rfl rfl (fun K hK => ?_); (first | ((refine still_ld _ _ rfl _ _ rfl _ HL1.out ?_); go_simp) | ((refine still_ld _ _ rfl _ _ rfl _ HL2.out ?_); go_simp) | go_simp); refine hK _ ?_; clear hK K)
              refine wpCan_nil ?_
              go_wp2_with fail
              go_roundw
              case rel => exact ⟨k + 1, D8, by go_num, by omega, (HLE2.out.trans HLEb.out).trans HLEc.out, HSH.out⟩
              case measure => simp [intOf]; omega
            · have hkk : ¬ ((k : Int) < 8) := by omega
              go_wp2_with fail
              go_roundw
              case rel => exact ⟨j + 1, D2, .slice ha hs.length hcp, .slice wa ws.length wc, by go_num, by omega, by omega, HLE7.out.trans HLE2.out, by rw [HRQ.out]; exact HQ6.out.mono HLE2.out, by rw [HRQ.out]; exact HS13.out⟩
              case measure => simp [intOf]; omega
    · by_cases h1 : j < acts.length
      · have hji : (j : Int) < (acts.length : Int) := by omega
        have hji2 : ¬ ((j : Int) < 40) := by omega
        go_wp2_with fail
        go_ret
        exact ⟨rfl, HEND.out D1 _ HLE.out HS.out.drop.drop⟩
      · have hji : ¬ ((j : Int) < (acts.length : Int)) := by omega
        go_wp2_with fail
        go_ret
        exact ⟨rfl, HEND.out D1 _ HLE.out HS.out.drop.drop⟩
end Go.Proofs.YtkdinhlmghfpeaaGreatDoor
