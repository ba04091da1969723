/- The document's example (ratlinelaw11.awake) answers true. -/
import Derived.Test.YtgljdkjepdknnaaGreatDoorJ38
import Derived.Test.YtgljdkjepdknnaaGreatDoorJ39
import Derived.Test.YtgljdkjepdknnaaGreatDoorJ40
namespace Go.Proofs.YtgljdkjepdknnaaGreatDoor
open Go.ChangeShapes Go.WideShapes Go.ChangeAt Go.RowKit
set_option maxRecDepth 100000
set_option linter.unusedSimpArgs false

abbrev kR (o m w : Int) : Rsn := ⟨o, rowC m 1, w⟩
abbrev kM0 : LkM := ⟨⟨[], []⟩, []⟩
abbrev kM1 : LkM := ⟨⟨[⟨1, rowC 3 1, false⟩], []⟩, [kR 1 3 1]⟩
abbrev kM2 : LkM := ⟨⟨[⟨1, rowC 3 1, false⟩], []⟩, [kR 1 3 9]⟩
abbrev kM3 : LkM := ⟨⟨[⟨1, rowC 3 1, false⟩], []⟩, [kR 1 3 8]⟩
abbrev kM4 : LkM := ⟨⟨[⟨1, rowC 3 1, false⟩], [⟨2, rowC 6 1, false⟩]⟩, [kR 1 3 8, kR 2 6 8]⟩
abbrev kM5 : LkM := ⟨⟨[⟨2, rowC 6 1, false⟩], []⟩, [kR 2 6 8]⟩
theorem kA1 : askK kM0 9 true 1 (rowC 3 1) 1 0 = (kM1, true, 0) := by kernel_rfl
theorem kA2 : askK kM1 9 true 1 (rowC 3 1) 3 0 = (kM2, true, 0) := by kernel_rfl
theorem kA3 : overK kM2 1 1 = (kM3, []) := by kernel_rfl
theorem kA4 : askK kM3 9 true 2 (rowC 6 1) 3 0 = (kM4, false, 0) := by kernel_rfl
theorem kA5 : endK kM4 1 = (kM5, [2]) := by kernel_rfl
theorem kA6 : holdsQ kM5.q 2 = [rowC 6 1] := by kernel_rfl
set_option maxHeartbeats 8000000 in
theorem lawake_ok {B w : World} {D : PH} {l : List HP} (hD : EnvD D) (h : Sat B D w l) : Calls Tryz.prog 11 #[] w fun r w' => r = .returned (.bool true) ∧ Sat B D w' l := by
  obtain ⟨D0, hle0, ht0, hs0⟩ := tbl_give h
  have HNEW := Lib.hid (New_L 9 ht0 (by decide) (by decide) hs0)
  have HD := Lib.hid hD
  have HLE0 := Lib.hid hle0
  clear h hle0 ht0 hs0 hD
  go_enter Tryz.func11, Tryz.ntmps11
  go_upto_region 2 with (go_at_call 12; refine HNEW.out.mono ?_; rintro e1 w1 ⟨L, D1, rfl, hle1, hs1⟩; have HLE1 := Lib.hid (HLE0.out.trans hle1); have HS1 := Lib.hid (show Sat B D1 w1 (lksC D1 L [[false]] 9 kM0 :: l) from hs1); clear hle1 hs1 HNEW)
  go_upto_region 3 with (first | (go_at_call 13; refine (row_ok 3 1).mono ?_; rintro er wr2 ⟨rfl, hkr⟩; have HA := Lib.hid (Ask_L (m := kM0) 1 (rowE 3 1) 1 0 (HD.out.mono HLE1.out) (rowE_ok _ _ _) (rowC_sm _ _ _) row_nodes sm_nil (by decide) (by decide) (by decide) (HS1.out.kept hkr)); rw [show mayK [[false]] (rowE 3 1).c = true from row_may (by decide), show askK kM0 9 true 1 (rowE 3 1).c 1 0 = _ from kA1] at HA; clear hkr) | (go_at_call 14; refine HA.out.mono ?_; rintro ea wa2 ⟨D2, rfl, hle, hs⟩; have HLE2 := Lib.hid (HLE1.out.trans hle); have HS2 := Lib.hid hs; clear hle hs HA HS1))
  go_upto_region 4 with (first | (go_at_call 13; refine (row_ok 3 1).mono ?_; rintro er wr3 ⟨rfl, hkr⟩; have HA := Lib.hid (Ask_L (m := kM1) 1 (rowE 3 1) 3 0 (HD.out.mono HLE2.out) (rowE_ok _ _ _) (rowC_sm _ _ _) row_nodes (sm_cons (rowC_sm _ _ _) sm_nil) (by decide) (by decide) (by decide) (HS2.out.kept hkr)); rw [show mayK [[false]] (rowE 3 1).c = true from row_may (by decide), show askK kM1 9 true 1 (rowE 3 1).c 3 0 = _ from kA2] at HA; clear hkr) | (go_at_call 14; refine HA.out.mono ?_; rintro ea wa3 ⟨D3, rfl, hle, hs⟩; have HLE3 := Lib.hid (HLE2.out.trans hle); have HS3 := Lib.hid hs; clear hle hs HA HS2))
  have HE := Lib.hid (EndShort_L (m := kM2) 1 (HD.out.mono HLE3.out) (by decide) (by decide) HS3.out)
  rw [show overK kM2 1 1 = _ from kA3] at HE
  go_upto_region 5 with (go_at_call 16; refine HE.out.mono ?_; rintro e4 w4 ⟨v4, D4, rfl, hle, hs⟩; have HLE4 := Lib.hid (HLE3.out.trans hle); obtain ⟨sa, sc, rfl⟩ := (hs.front 1 rfl).own_shape; have HS4 := Lib.hid hs; clear hle hs HE HS3)
  go_upto_region 6 with (first | (go_at_call 13; refine (row_ok 6 1).mono ?_; rintro er wr5 ⟨rfl, hkr⟩; have HA := Lib.hid (Ask_L (m := kM3) 2 (rowE 6 1) 3 0 (HD.out.mono HLE4.out) (rowE_ok _ _ _) (rowC_sm _ _ _) row_nodes (sm_cons (rowC_sm _ _ _) sm_nil) (by decide) (by decide) (by decide) (HS4.out.kept hkr)); rw [show mayK [[false]] (rowE 6 1).c = true from row_may (by decide), show askK kM3 9 true 2 (rowE 6 1).c 3 0 = _ from kA4] at HA; clear hkr) | (go_at_call 14; refine HA.out.mono ?_; rintro ea wa5 ⟨D5, rfl, hle, hs⟩; have HLE5 := Lib.hid (HLE4.out.trans hle); have HS5 := Lib.hid hs; clear hle hs HA HS4))
  have HE := Lib.hid (End_L (m := kM4) 1 (HD.out.mono HLE5.out) (by decide) HS5.out)
  rw [show endK kM4 1 = _ from kA5] at HE
  go_upto_region 7 with (go_at_call 29; refine HE.out.mono ?_; rintro e6 w6 ⟨v6, D6, rfl, hle, hs⟩; have HLE6 := Lib.hid (HLE5.out.trans hle); have HS6 := Lib.hid hs; clear hle hs HE HS5)
  have HN1 := Lib.hid (newInt HS6.out 2)
  have HI1 := Lib.hid (Ints_k (r := true) (HN1.out.1.own 2 rfl).rd HN1.out.2 (by decide))
  go_wp2_with (first
    | (go_at_call 30; refine HI1.out.mono ?_; rintro e9 w9 ⟨rfl, hk⟩; have HS7 := Lib.hid (HN1.out.1.kept hk).drop; have HLN := Lib.hid (Len_L (m := kM5) (by decide) HS7.out); clear hk HI1 HN1 HS6)
    | (go_at_call 27; refine HLN.out.mono ?_; rintro e10 w10 ⟨rfl, hk⟩; have HS8 := Lib.hid (HS7.out.kept hk); have HHO := Lib.hid (Holds_L (m := kM5) 2 (by decide) (sm_cons (rowC_sm _ _ _) sm_nil) HS8.out); rw [show holdsQ kM5.q 2 = _ from kA6] at HHO; clear hk HLN HS7)
    | (go_at_call 17; refine HHO.out.mono ?_; rintro e11 w11 ⟨v11, D11, rfl, hle, hs⟩; have HLE11 := Lib.hid (HLE6.out.trans hle); obtain ⟨cs, hcs, _, hs2⟩ := clmsOpen hs; obtain ⟨va, vc, rfl⟩ := hs2.own_shape; have hcl : cs.length = 1 := (by have := congrArg List.length hcs; simpa using this); rw [hcl] at hs2 ⊢; have HS11 := Lib.hid hs2; clear hle hs hs2 hcs hcl HHO HS8))
  go_ret
  exact ⟨rfl, HS11.out.drop.drop.drop.drop.less HLE11.out⟩
end Go.Proofs.YtgljdkjepdknnaaGreatDoor
