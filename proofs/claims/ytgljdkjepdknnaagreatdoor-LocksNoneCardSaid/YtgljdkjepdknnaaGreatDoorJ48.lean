/- Locks that are none have nothing; what isn't held for a time that is one isn't taken (the law LocksNone). -/
import Derived.Test.YtgljdkjepdknnaaGreatDoorJ41
import Derived.Test.YtgljdkjepdknnaaGreatDoorJ47
import Derived.Test.YtgljdkjepdknnaaGreatDoorJ20
import Derived.Test.YtgljdkjepdknnaaGreatDoorJ21
namespace Go.Proofs.YtgljdkjepdknnaaGreatDoor
open Go.ChangeShapes Go.WideShapes Go.ChangeAt Go.RowKit
set_option maxRecDepth 100000
set_option linter.unusedSimpArgs false

theorem none_right {dur hand : Int} (c : Clm) (hb : bitK dur hand ≠ 0) : askK ⟨q0K, []⟩ 5 true 1 c dur hand = (⟨q1K 1 c, [⟨1, c, bitK dur hand⟩]⟩, true, 0) := one_first (by decide) hb
theorem none_wrong {dur hand : Int} (c : Clm) (hb : bitK dur hand = 0) : askK ⟨q0K, []⟩ 5 true 1 c dur hand = (⟨q0K, []⟩, false, 111) := askK_no (.inr hb)
set_option maxHeartbeats 64000000 in
theorem noneLawL_ok {W : World} (a : ActE) (tb : EnvD (heapOf W)) (ha : RdCl W a.x) :
    Calls Tryz.prog 10 #[.agg a.cells.toArray] W fun r w' => r = .returned (.bool true) ∧ Kept (fun _ => False) W w' := by
  obtain ⟨D, hD⟩ : ∃ D, heapOf W = D := ⟨_, rfl⟩
  have hs0 : Sat W D W [] := by rw [← hD]; exact Sat.start W
  have HEND := Lib.hid (show ∀ w' D', PH.le D D' → Sat W D' w' [] → Kept (fun _ => False) W w' from fun w' D' le hs => hs.end_ (by rw [hD]; exact le))
  have HOK := Lib.hid (show ClOk D a.x by rw [← hD]; exact ClOk.of_rd ha)
  rw [hD] at tb
  have HD := Lib.hid tb
  obtain ⟨W1, hW1, hs1⟩ := Sat.hide (hs0.alloc a.cells.toArray tAct)
  have HW1 := Lib.hid hW1
  have HAW := Lib.hid (lawake_ok tb hs1)
  clear hD hs0 hs1 tb ha hW1
  go_enter Tryz.func10, Tryz.ntmps10
  go_upto_region 1 with fail
  rw [← HW1.out]
  clear HW1
  generalize W.heap.size = ba at *
  go_upto_region 4 with (go_at_call 11; refine HAW.out.mono ?_; rintro e1 w1 ⟨rfl, hs1⟩; have HS1 := Lib.hid hs1; clear hs1 HAW)
  have HLC := Lib.hid (loadCl (rangeActB (HS1.out.blk 0 rfl)))
  have HFW := Lib.hid (few_ok (HOK.out.rd HS1.out))
  cases hf : fewB a.x.c
  · rw [hf] at HFW
    go_wp2_with (first | (refine wpList_ld rfl _ _ rfl _ _ rfl _ HLC.out ?_) | (go_at_call 23; refine HFW.out.mono ?_; rintro e2 w2 ⟨rfl, hk⟩; have HS2 := Lib.hid (HS1.out.kept hk); clear hk HFW HLC HS1))
    go_ret
    exact ⟨rfl, HEND.out _ D (PH.le.refl _) HS2.out.drop⟩
  rw [hf] at HFW
  clear hf
  go_upto_region 8 with (first | (refine wpList_ld rfl _ _ rfl _ _ rfl _ HLC.out ?_) | (go_at_call 23; refine HFW.out.mono ?_; rintro e2 w2 ⟨rfl, hk⟩; have HS2 := Lib.hid (HS1.out.kept hk); clear hk HFW HLC HS1))
  have HLC := Lib.hid (loadCl (rangeActB (HS2.out.blk 0 rfl)))
  obtain ⟨a0, a1, a18, a19, a20, a21⟩ := boxAct (HS2.out.blk 0 rfl)
  go_upto_region 9 with (first | (refine wpList_ld rfl _ _ rfl _ _ rfl _ HLC.out ?_) | (go_at_call 14; refine (Ask_nilL _ a.x _ _ _).mono ?_; rintro e3 w3 ⟨rfl, hk⟩; have HS3 := Lib.hid (HS2.out.kept hk); clear hk HLC HS2 a0 a1 a18 a19 a20 a21))
  obtain ⟨a0, a1, a18, a19, a20, a21⟩ := boxAct (HS3.out.blk 0 rfl)
  have HWN := Lib.hid (Waits_nilL a.owner HS3.out)
  go_upto_region 10 with (first | (go_at_call 25; refine HWN.out.mono ?_; rintro e4 w4 ⟨rfl, hs4⟩; have HS4 := Lib.hid ((hs4.alloc cl0.cells.toArray tCl).swap); clear hs4 HWN HS3 a0 a1 a18 a19 a20 a21) | (refine wpList_store_new rfl _ _ _ rfl cl0.cells _ _ rfl rfl (by kernel_rfl) rfl (ClmE.one _) ?_))
  obtain ⟨W5, hW5, hs5⟩ := Sat.hide HS4.out
  rw [← hW5]
  clear hW5 HS4
  generalize w4.heap.size = bx at hs5 ⊢
  have HS := Lib.hid hs5
  have HLX := Lib.hid (loadCl (x := cl0) (blk_range (hs5.blk 1 rfl)))
  have HALL := Lib.hid (show ∀ (w w' : World), Sat W D w [blk ba a.cells.toArray tAct, blk bx cl0.cells.toArray tCl] → Kept (fun _ => False) w w' → Sat W D w' [blk ba a.cells.toArray tAct, blk bx cl0.cells.toArray tCl] ∧ (loadVar tCl ⟨bx, 0, none⟩).run Tryz.prog w' = .ok (.agg cl0.cells.toArray) w' ∧ (w'.cell? ⟨ba, 0, none⟩ = some (.int .i64 a.kind) ∧ w'.cell? ⟨ba, 1, none⟩ = some (.int .i64 a.owner) ∧ w'.cell? ⟨ba, 18, none⟩ = some (.int .i64 a.dur) ∧ w'.cell? ⟨ba, 19, none⟩ = some (.int .i64 a.hand) ∧ w'.cell? ⟨ba, 20, none⟩ = some (.int .i64 a.table) ∧ w'.cell? ⟨ba, 21, none⟩ = some (.int .i64 a.many)) from
    fun _ _ hs hk => ⟨hs.kept hk, loadCl (x := cl0) (blk_range ((hs.kept hk).blk 1 rfl)), boxAct ((hs.kept hk).blk 0 rfl)⟩)
  obtain ⟨a0, a1, a18, a19, a20, a21⟩ := boxAct (hs5.blk 0 rfl)
  clear hs5
  go_upto_region 12 with (first
    | (refine wpList_ldw rfl _ _ rfl _ _ rfl _ HLX.out ?_)
    | (refine wpList_build_cl0w rfl rfl ?_)
    | (go_at_call 33; refine (rEqual_eq (x := cl0) (y := cl0) ((cl0_ok D).rd HS.out) ((cl0_ok D).rd HS.out) rfl).mono ?_; rintro e8 w8 ⟨rfl, hk⟩; replace HS := Lib.hid (HALL.out _ _ HS.out hk); replace HLX := Lib.hid HS.out.2.1; clear a0 a1 a18 a19 a20 a21; obtain ⟨a0, a1, a18, a19, a20, a21⟩ := HS.out.2.2; replace HS := Lib.hid HS.out.1; clear hk)
    | (go_at_call 27; refine (Len_nilL _).mono ?_; rintro e9 w9 ⟨rfl, hk⟩; replace HS := Lib.hid (HALL.out _ _ HS.out hk); replace HLX := Lib.hid HS.out.2.1; clear a0 a1 a18 a19 a20 a21; obtain ⟨a0, a1, a18, a19, a20, a21⟩ := HS.out.2.2; replace HS := Lib.hid HS.out.1; clear hk)
    | (go_at_call 17; refine (Holds_nilL _ _).mono ?_; rintro e10 w10 ⟨rfl, hk⟩; replace HS := Lib.hid (HALL.out _ _ HS.out hk); replace HLX := Lib.hid HS.out.2.1; clear a0 a1 a18 a19 a20 a21; obtain ⟨a0, a1, a18, a19, a20, a21⟩ := HS.out.2.2; replace HS := Lib.hid HS.out.1; clear hk)
    | (go_at_call 28; refine (Blockers_nilL _ _).mono ?_; rintro e11 w11 ⟨rfl, hk⟩; replace HS := Lib.hid (HALL.out _ _ HS.out hk); replace HLX := Lib.hid HS.out.2.1; clear a0 a1 a18 a19 a20 a21; obtain ⟨a0, a1, a18, a19, a20, a21⟩ := HS.out.2.2; replace HS := Lib.hid HS.out.1; clear hk)
    | (go_at_call 29; refine (End_nilL _ _).mono ?_; rintro e12 w12 ⟨rfl, hk⟩; replace HS := Lib.hid (HALL.out _ _ HS.out hk); replace HLX := Lib.hid HS.out.2.1; clear a0 a1 a18 a19 a20 a21; obtain ⟨a0, a1, a18, a19, a20, a21⟩ := HS.out.2.2; replace HS := Lib.hid HS.out.1; clear hk)
    | (go_at_call 16; refine (EndShort_nilL _ _).mono ?_; rintro e13 w13 ⟨rfl, hk⟩; replace HS := Lib.hid (HALL.out _ _ HS.out hk); replace HLX := Lib.hid HS.out.2.1; clear a0 a1 a18 a19 a20 a21; obtain ⟨a0, a1, a18, a19, a20, a21⟩ := HS.out.2.2; replace HS := Lib.hid HS.out.1; clear hk)
    | (go_at_call 15; refine (EndHand_nilL _ _ _).mono ?_; rintro e14 w14 ⟨rfl, hk⟩; replace HS := Lib.hid (HALL.out _ _ HS.out hk); replace HLX := Lib.hid HS.out.2.1; clear a0 a1 a18 a19 a20 a21; obtain ⟨a0, a1, a18, a19, a20, a21⟩ := HS.out.2.2; replace HS := Lib.hid HS.out.1; clear hk)
    | (go_at_call 37; refine (Leave_nilL _ _).mono ?_; rintro e15 w15 ⟨rfl, hk⟩; replace HS := Lib.hid (HALL.out _ _ HS.out hk); replace HLX := Lib.hid HS.out.2.1; clear a0 a1 a18 a19 a20 a21; obtain ⟨a0, a1, a18, a19, a20, a21⟩ := HS.out.2.2; replace HS := Lib.hid HS.out.1; clear hk)
    | (go_at_call 19; refine (Escalate_nilL _ _ _ _).mono ?_; rintro e16 w16 ⟨rfl, hk⟩; replace HS := Lib.hid (HALL.out _ _ HS.out hk); replace HLX := Lib.hid HS.out.2.1; clear a0 a1 a18 a19 a20 a21; obtain ⟨a0, a1, a18, a19, a20, a21⟩ := HS.out.2.2; replace HS := Lib.hid HS.out.1; clear hk))
  clear HLX HALL a0 a1 a18 a19 a20 a21
  obtain ⟨D0, hle0, ht0, hs0⟩ := tbl_give HS.out
  have HNEW := Lib.hid (New_L 5 ht0 (by decide) (by decide) hs0)
  have HLE0 := Lib.hid hle0
  clear hle0 ht0 hs0 HS
  go_upto_region 13 with (go_at_call 12; refine HNEW.out.mono ?_; rintro e17 w17 ⟨L, D1, rfl, hle1, hs17⟩; have HLE1 := Lib.hid (HLE0.out.trans hle1); have HS17 := Lib.hid (show Sat W D1 w17 [lksC D1 L [[false]] 5 ⟨q0K, []⟩, blk ba a.cells.toArray tAct, blk bx cl0.cells.toArray tCl] from hs17); clear hle1 hs17 HNEW)
  obtain ⟨a0, a1, a18, a19, a20, a21⟩ := boxAct (HS17.out.blk 1 rfl)
  obtain ⟨R, hR⟩ : ∃ R, R = askK ⟨q0K, []⟩ 5 true 1 (rowC 3 1) a.dur a.hand := ⟨_, rfl⟩
  have HR := Lib.hid hR
  refine wp_region_canon [(0, false, 6), (2, false, 6), (3, false, 6), (4, false, 6), (5, false, 6), (1, true, 0), (6, true, 0), (7, false, 999), (8, false, 999), (9, false, 999), (10, false, 999), (11, false, 999)] (by kernel_rfl) (by kernel_rfl) ?_
  iterate 5 (refine wpCan_read rfl rfl (fun K hK => ?_); go_simp; refine hK _ ?_; clear hK K)
  refine wpCan_eff rfl ?_
  refine wpList_do rfl (fun K hK => ?_)
  go_simp
  refine (row_ok 3 1).mono ?_
  rintro e18 w18 ⟨rfl, hk18⟩
  have HS18 := Lib.hid (HS17.out.drew.kept hk18)
  have HA := Lib.hid (Ask_L (m := ⟨q0K, []⟩) 1 (rowE 3 1) a.dur a.hand (HD.out.mono HLE1.out) (rowE_ok _ _ _) (rowC_sm _ _ _) row_nodes sm_nil (by decide) (by decide) (by decide) HS18.out)
  rw [rowE_c, row_may (.inl rfl), ← hR] at HA
  clear hk18 HS17 hR a0 a1 a18 a19 a20 a21
  obtain ⟨a0, a1, a18, a19, a20, a21⟩ := boxAct (HS18.out.blk 1 rfl)
  refine hK _ _ ?_
  clear hK K
  refine wpList_nil ?_
  refine And.intro ?_ ?_
  · go_simp
  refine wpCan_eff rfl ?_
  refine wpList_do rfl (fun K hK => ?_)
  go_simp
  refine HA.out.mono ?_
  rintro e19 w19 ⟨D19, rfl, hle19, hs19⟩
  have HLE19 := Lib.hid (HLE1.out.trans hle19)
  have HS19 := Lib.hid hs19
  clear hle19 hs19 HA HS18 a0 a1 a18 a19 a20 a21
  obtain ⟨a0, a1, a18, a19, a20, a21⟩ := boxAct (HS19.out.blk 1 rfl)
  refine hK _ _ ?_
  clear hK K
  refine wpList_nil ?_
  refine And.intro ?_ ?_
  · go_simp
  iterate 5 (refine wpCan_read rfl rfl (fun K hK => ?_); go_simp; refine hK _ ?_; clear hK K)
  refine wpCan_nil ?_
  go_upto_region 14 with fail
  by_cases hb : bitK a.dur a.hand = 0
  · rw [HR.out, none_wrong _ hb] at HS19 ⊢
    have hb1 : ((a.dur == 1) = false ∧ (a.dur == 3) = false ∧ (a.dur == 2) = false) ∨ ((a.dur == 1) = false ∧ (a.dur == 3) = false ∧ (a.dur == 2) = true ∧ (a.hand == 1) = false ∧ (a.hand == 2) = false) := by
      unfold bitK at hb
      split at hb
      · cases hb
      · split at hb
        · cases hb
        · rename_i n1 n3
          by_cases h2 : a.dur = 2
          · right
            split at hb
            · split at hb <;> cases hb
            · rename_i n4
              refine ⟨by simpa using n1, by simpa using n3, by simpa using h2, ?_, ?_⟩
              · simp; intro h; exact n4 ⟨h2, by omega, by omega⟩
              · simp; intro h; exact n4 ⟨h2, by omega, by omega⟩
          · left
            exact ⟨by simpa using n1, by simpa using n3, by simpa using h2⟩
    have HLN := Lib.hid (Len_L (m := ⟨q0K, []⟩) (by decide) (show Sat W D19 w19 (lksC D19 L [[false]] 5 ⟨q0K, []⟩ :: [blk ba a.cells.toArray tAct, blk bx cl0.cells.toArray tCl]) from HS19.out))
    clear hb HR
    rcases hb1 with ⟨b1, b3, b2⟩ | ⟨b1, b3, b2, b4, b5⟩
    all_goals
      go_wp2_with (go_at_call 27; refine HLN.out.mono ?_; rintro e20 w20 ⟨rfl, hk20⟩; have HS20 := Lib.hid (HS19.out.kept hk20); clear hk20 HLN HS19)
      go_ret
      exact ⟨rfl, HEND.out _ _ HLE19.out HS20.out.drop.drop.drop⟩
  · rw [HR.out, none_right _ hb] at HS19 ⊢
    have hb1 : (a.dur == 1) = true ∨ ((a.dur == 1) = false ∧ (a.dur == 3) = true) ∨ ((a.dur == 1) = false ∧ (a.dur == 3) = false ∧ (a.dur == 2) = true ∧ (a.hand == 1) = true) ∨ ((a.dur == 1) = false ∧ (a.dur == 3) = false ∧ (a.dur == 2) = true ∧ (a.hand == 1) = false ∧ (a.hand == 2) = true) := by
      by_cases n1 : a.dur = 1
      · exact .inl (by simpa using n1)
      by_cases n3 : a.dur = 3
      · exact .inr (.inl ⟨by simpa using n1, by simpa using n3⟩)
      unfold bitK at hb
      rw [if_neg n1, if_neg n3] at hb
      split at hb
      · rename_i h
        by_cases h1 : a.hand = 1
        · exact .inr (.inr (.inl ⟨by simpa using n1, by simpa using n3, by simpa using h.1, by simpa using h1⟩))
        · exact .inr (.inr (.inr ⟨by simpa using n1, by simpa using n3, by simpa using h.1, by simpa using h1, by simp; omega⟩))
      · exact absurd rfl hb
    clear hb HR
    rcases hb1 with b1 | ⟨b1, b3⟩ | ⟨b1, b3, b2, b4⟩ | ⟨b1, b3, b2, b4, b5⟩
    all_goals
      go_wp2_with fail
      go_ret
      exact ⟨rfl, HEND.out _ _ HLE19.out HS19.out.drop.drop.drop⟩
end Go.Proofs.YtgljdkjepdknnaaGreatDoor
