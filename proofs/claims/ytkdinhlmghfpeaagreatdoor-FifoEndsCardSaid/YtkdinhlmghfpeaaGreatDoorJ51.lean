/- Where all leave and drop all, nobody waits or holds anything (the law FifoEnds). (printed by genlends.py) -/
import Derived.Test.YtkdinhlmghfpeaaGreatDoorJ48
namespace Go.Proofs.YtkdinhlmghfpeaaGreatDoor
open Go.ChangeShapes Go.WideShapes Go.ChangeAt Go.RowKit
set_option maxRecDepth 100000
set_option linter.unusedSimpArgs false

theorem ints_one (l : List Int) : ∀ u ∈ l.map (Value.int .i64), u.oneCell' = true := fun u hu => by
  obtain ⟨n, _, rfl⟩ := List.mem_map.1 hu
  rfl
set_option maxHeartbeats 32000000 in
theorem endsLaw_ok {W : World} {v : Value} {acts : List ActE} (x : Int) (tb : EnvD (heapOf W)) (hv : ActsRd W v acts) :
    Calls Tryz.prog 8 #[v, .int .i64 x] W fun r w' => r = .returned (.bool true) ∧ Kept (fun _ => False) W w' := by
  obtain ⟨i0, hi, hz0, hz1, hz2⟩ := info_parts infoInt
  have HI := Lib.hid (And.intro hi (And.intro hz0 (And.intro hz1 hz2)))
  obtain ⟨D, hD⟩ : ∃ D, heapOf W = D := ⟨_, rfl⟩
  have HV := Lib.hid (show ActsD D v acts by rw [← hD]; exact ActsD.of_rd hv)
  have HE := Lib.hid (show EnvD D by rw [← hD]; exact tb)
  have HAW := Lib.hid (awake_ok HE.out (show Sat W D W [] by rw [← hD]; exact Sat.start W))
  have HEND := Lib.hid (show ∀ (D' : PH) (w' : World), PH.le D D' → Sat W D' w' [] → Kept (fun _ => False) W w' from fun D' w' hle hs => hs.end_ (by rw [hD]; exact hle))
  obtain ⟨a, c, rfl, hN⟩ := HV.out.shape
  clear hv tb hD hi hz0 hz1 hz2
  go_enter Tryz.func8, Tryz.ntmps8
  go_upto_region 4 with (go_at_call 11; refine HAW.out.mono ?_; rintro e1 w1 ⟨rfl, hs1⟩; have HS1 := Lib.hid hs1; clear hs1 HAW)
  have HB := Lib.hid (behind_ok HE.out HV.out HS1.out)
  clear HS1
  go_upto_region 5 with (go_at_call 22; refine HB.out.mono ?_; rintro e2 w2 ⟨q, D1, rfl, hle, hs2⟩; have HLE := Lib.hid hle; have HS2 := Lib.hid hs2; clear hle hs2 HB)
  have HSC := Lib.hid ((runQ_sc (l := acts.take 40) (fun y hy => (HV.out.2 y (List.mem_of_mem_take hy)).2)).mono (show (acts.take 40).length ≤ 40 by rw [List.length_take]; omega))
  have hlen := HSC.out.len
  have HED := Lib.hid (HE.out.mono HLE.out)
  generalize runQ (acts.take 40) = Q0 at *
  go_wp2_with fail
  go_loopw [9, 10] (fun mm ii wr => ∃ (k : Nat) (m : Int), ii = .int .i64 k ∧ mm = .int .i64 m ∧ k ≤ 8 ∧ m = ((Q0.waits.filter (ltE (k : Int))).length : Nat) ∧ Sat W D1 wr [queC D1 q Q0]) (fun _ ii _ => 8 - (intOf ii).toNat)
  case atStart => exact ⟨0, 0, rfl, rfl, by omega, by rw [wait_zero HSC.out]; rfl, HS2.out⟩
  case round =>
    obtain ⟨k, m, rfl, rfl, hk, hm, hs⟩ := hrel
    have HM := Lib.hid hm
    have HS3 := Lib.hid hs
    have hm40 : 0 ≤ m ∧ m ≤ 40 := by have := List.length_filter_le (ltE (k : Int)) Q0.waits; omega
    clear hs hm HS2
    by_cases hk8 : k < 8
    · have hkk : (k : Int) < 8 := by omega
      have HWL := Lib.hid (wait_lt HSC.out.ok k)
      have HWA := Lib.hid (Waits_C (k : Int) HS3.out)
      clear HS3
      go_upto_region 12 with (first | (go_at_call 29; refine HWA.out.mono ?_; rintro e6 w6 ⟨z, rfl, _, _, hs6⟩; have HS6 := Lib.hid ((hs6.alloc z.cells.toArray tCl).drop); clear hs6 HWA) | (refine wpList_store_new rfl _ _ _ rfl z.cells _ _ rfl rfl (by kernel_rfl) rfl (ClmE.one _) ?_))
      cases hwt : (waitsQ Q0 (k : Int)).2
      · have HMK := Lib.hid (show m = ((Q0.waits.filter (ltE ((k + 1 : Nat) : Int))).length : Nat) by rw [HWL.out, hwt, HM.out]; simp)
        go_wp2_with fail
        go_roundw
        case rel => exact ⟨k + 1, m, by go_num, rfl, by omega, HMK.out, HS6.out⟩
        case measure => simp [intOf]; omega
      · have HMK := Lib.hid (show m + 1 = ((Q0.waits.filter (ltE ((k + 1 : Nat) : Int))).length : Nat) by rw [HWL.out, hwt, HM.out]; simp)
        have hw1 : IntKind.i64.wrap (m + 1) = m + 1 := IntWalk.i64_in _ (by omega)
        go_wp2_with fail
        go_roundw
        case rel => exact ⟨k + 1, m + 1, by go_num, rfl, by omega, HMK.out, HS6.out⟩
        case measure => simp [intOf]; omega
    · have hkk : ¬ ((k : Int) < 8) := by omega
      have HM8 := Lib.hid (show m = (Q0.waits.length : Nat) by rw [HM.out, show k = 8 by omega, wait_eight HSC.out])
      have HST := Lib.hid (EndI.start (first := x) HSC.out)
      have HSS := Lib.hid ((HS3.out.own_nil 3 1).own_nil 3 1)
      clear HS3 HM
      generalize hwn : Q0.waits.length = wn at *
      clear hwn
      go_wp2_with fail
      go_loopw [7, 8, 13] (fun gg lv ii wr => ∃ (i : Nat) (Q : Qm Clm) (gs ls : List Int) (ga la : Option Addr) (gc lc : Nat), ii = .int .i64 i ∧ gg = .slice ga gs.length gc ∧ lv = .slice la ls.length lc ∧ i ≤ 8 ∧ EndI x i wn Q gs.length ls.length ∧ Sat W D1 wr [intsP (.slice ga gs.length gc) gs, intsP (.slice la ls.length lc) ls, queC D1 q Q]) (fun _ _ ii _ => 8 - (intOf ii).toNat)
      case atStart => exact ⟨0, Q0, [], [], none, none, 0, 0, rfl, rfl, rfl, by omega, HST.out, HSS.out⟩
      case round =>
        obtain ⟨i, Q, gs, ls, ga, la, gc, lc, rfl, rfl, rfl, hi8, hen, hs⟩ := hrel
        have HEN := Lib.hid hen
        have HS4 := Lib.hid hs
        have hsum := hen.sum
        have hql := hen.sc.len
        clear hs hen HSS HST
        have hwn40 : wn ≤ 40 := by omega
        have hgl : gs.length ≤ 40 ∧ ls.length ≤ 40 := by omega
        clear hsum
        by_cases hi : i < 8
        · have hii : (i : Int) < 8 := by omega
          obtain ⟨on, hon⟩ : ∃ on, (x + (i : Int)) % 8 = on := ⟨_, rfl⟩
          have hand : bits .and .i64 (wrap64 (x + (i : Int))) 7 = on := by rw [← IntWalk.i64_left, and7w, hon]
          have HSTEP := Lib.hid (HEN.out.step (o := on) hon.symm)
          have hll := leave_len (R := RC) HEN.out.sc.ok on
          have hdl := drop_len (R := RC) (leaveQ RC Q on).1 (ofE on)
          have hl1 : (leaveQ RC Q on).2.length ≤ 40 := by omega
          have hl2 : (dropQ RC (leaveQ RC Q on).1 (ofE on)).2.length ≤ 40 := by omega
          have hM : Q.held.length + Q.waits.length ≤ 1000 := by omega
          have hsc1 := (leave_sc HEN.out.sc on).len
          have hM1 : (leaveQ RC Q on).1.held.length + (leaveQ RC Q on).1.waits.length ≤ 1000 := by omega
          have hsc2 := (drop_sc (leave_sc HEN.out.sc on) (ofE on)).len
          have hh2 : (dropQ RC (leaveQ RC Q on).1 (ofE on)).1.held.length ≤ 100000 := by omega
          have HWA := Lib.hid (Waits_C on (HS4.out.front 2 rfl))
          clear HS4 hon hll hdl hsc1 hsc2
          go_upto_region 18 with fail
          clear hand
          go_upto_region 19 with (first | (go_at_call 29; refine HWA.out.mono ?_; rintro e6 w6 ⟨z, rfl, _, _, hs6⟩; have HS6 := Lib.hid ((hs6.alloc z.cells.toArray tCl).drop); clear hs6 HWA) | (refine wpList_store_new rfl _ _ _ rfl z.cells _ _ rfl rfl (by kernel_rfl) rfl (ClmE.one _) ?_))
          cases hwt : (waitsQ Q on).2
          · go_upto_region 21 with fail
            have HS7 := Lib.hid HS6.out
            clear HS6
            have HLV := Lib.hid (Leave_C on HED.out hM HS7.out)
            clear HS7
            go_upto_region 22 with (go_at_call 36; refine HLV.out.mono ?_; rintro e8 w8 ⟨v8, rfl, hs8⟩; obtain ⟨a8, c8, rfl⟩ := (hs8.front 1 rfl).own_shape; have HCL := Lib.hid (Clear_C on HED.out hM1 hs8); clear hs8 HLV)
            go_upto_region 23 with (go_at_call 37; refine HCL.out.mono ?_; rintro e9 w9 ⟨v9, rfl, hs9⟩; obtain ⟨a9, c9, rfl⟩ := (hs9.front 1 rfl).own_shape; have HS9 := Lib.hid (hs9.front 3 rfl); clear hs9 HCL)
            have HNO := Lib.hid HSTEP.out.2
            have HEN2 := Lib.hid HSTEP.out.1
            rw [hwt] at HEN2
            clear HSTEP hwt
            generalize dropQ RC (leaveQ RC Q on).1 (ofE on) = X2 at *
            generalize (leaveQ RC Q on).2 = L5 at *
            go_upto_region 24 with (at_builtin; refine wpList_append_Sat _ rfl _ _ 22 rfl 3 i0 _ 1 8 Tryz.underlying22 HI.out.1 HI.out.2.1 HI.out.2.2.1 HI.out.2.2.2 rfl _ gs.length _ rfl HS9.out _ L5.length _ rfl (HS9.out.own 3 rfl).rd (ints_one _) (by unfold maxLen; omega) (by omega) ?_; intro v10 w10 hs10 h10; obtain ⟨a10, c10, rfl⟩ := hs10.own_shape; have HS10 := Lib.hid hs10; clear hs10 h10 HS9)
            go_upto_region 25 with (at_builtin; refine wpList_append_Sat _ rfl _ _ 22 rfl 3 i0 _ 1 8 Tryz.underlying22 HI.out.1 HI.out.2.1 HI.out.2.2.1 HI.out.2.2.2 rfl _ (gs.length + L5.length) _ rfl HS10.out _ X2.2.length _ rfl (HS10.out.own 2 rfl).rd (ints_one _) (by unfold maxLen; omega) (by omega) ?_; intro v11 w11 hs11 h11; obtain ⟨a11, c11, rfl⟩ := hs11.own_shape; have HS11 := Lib.hid hs11; clear hs11 h11 HS10)
            have HHO := Lib.hid (Holds_C on hh2 (HS11.out.front 1 rfl))
            rw [HNO.out] at HHO
            clear HS11
            go_wp2_with (go_at_call 23; refine HHO.out.mono ?_; rintro e12 w12 ⟨v12, rfl, hs12⟩; obtain ⟨cs, hcm, _, hs13⟩ := clmsOpen hs12; obtain rfl := List.map_eq_nil_iff.1 hcm; obtain ⟨a12, c12, rfl⟩ := hs13.own_shape; have HS12 := Lib.hid hs12.drop; clear hcm hs12 hs13 HHO)
            go_roundw
            case rel =>
              refine ⟨i + 1, X2.1, gs ++ L5 ++ X2.2, ls, a11, la, c11, lc, by go_num, by rw [List.length_append, List.length_append], rfl, by omega, ?_, ?_⟩
              · have h := HEN2.out
                rw [List.length_append, List.length_append]
                simpa using h
              · show Sat W D1 w12 [ownS 3 1 _ (gs ++ L5 ++ X2.2).length ((gs ++ L5 ++ X2.2).map (Value.int .i64)), ownS 3 1 _ (ls).length ((ls).map (Value.int .i64)), _]
                rw [List.length_append, List.length_append, List.map_append, List.map_append]
                exact ((((HS12.out.front 1 rfl).front 4 rfl).swap.front 3 rfl).drop.front 3 rfl).drop
            case measure => simp [intOf]; omega
          · obtain ⟨W6, hW6, hs6⟩ := Sat.hide HS6.out
            rw [← hW6]
            clear hW6 HS6
            have HS6 := Lib.hid (show Sat W D1 (W6.alloc (.cells #[.int .i64 on] 3)) (intsP (.slice la ls.length lc) ls :: blk W6.heap.size #[.int .i64 on] 3 :: queC D1 q Q :: intsP (.slice ga gs.length gc) gs :: []) from (hs6.alloc _ _).front 3 rfl)
            have HRD := Lib.hid (rd_block (size := 1) (n := 1) (HS6.out.blk 1 rfl) rfl (by unfold maxLen; omega))
            clear hs6
            go_upto_region 21 with (at_builtin; refine wpList_append_Sat _ rfl _ _ 22 rfl 3 i0 _ 1 8 Tryz.underlying22 HI.out.1 HI.out.2.1 HI.out.2.2.1 HI.out.2.2.2 rfl _ ls.length _ rfl HS6.out _ 1 _ rfl HRD.out (by intro u hu; simp at hu; subst hu; rfl) (by unfold maxLen; omega) (by omega) ?_; intro v7 w7 hs7 h7; obtain ⟨a7, c7, rfl⟩ := hs7.own_shape; have HS7a := Lib.hid hs7; clear hs7 h7 HS6 HRD)
            have HS7 := Lib.hid ((HS7a.out.front 1 rfl).drop.rot)
            clear HS7a
            have HLV := Lib.hid (Leave_C on HED.out hM HS7.out)
            clear HS7
            go_upto_region 22 with (go_at_call 36; refine HLV.out.mono ?_; rintro e8 w8 ⟨v8, rfl, hs8⟩; obtain ⟨a8, c8, rfl⟩ := (hs8.front 1 rfl).own_shape; have HCL := Lib.hid (Clear_C on HED.out hM1 hs8); clear hs8 HLV)
            go_upto_region 23 with (go_at_call 37; refine HCL.out.mono ?_; rintro e9 w9 ⟨v9, rfl, hs9⟩; obtain ⟨a9, c9, rfl⟩ := (hs9.front 1 rfl).own_shape; have HS9 := Lib.hid (hs9.front 3 rfl); clear hs9 HCL)
            have HNO := Lib.hid HSTEP.out.2
            have HEN2 := Lib.hid HSTEP.out.1
            rw [hwt] at HEN2
            clear HSTEP hwt
            generalize dropQ RC (leaveQ RC Q on).1 (ofE on) = X2 at *
            generalize (leaveQ RC Q on).2 = L5 at *
            go_upto_region 24 with (at_builtin; refine wpList_append_Sat _ rfl _ _ 22 rfl 3 i0 _ 1 8 Tryz.underlying22 HI.out.1 HI.out.2.1 HI.out.2.2.1 HI.out.2.2.2 rfl _ gs.length _ rfl HS9.out _ L5.length _ rfl (HS9.out.own 3 rfl).rd (ints_one _) (by unfold maxLen; omega) (by omega) ?_; intro v10 w10 hs10 h10; obtain ⟨a10, c10, rfl⟩ := hs10.own_shape; have HS10 := Lib.hid hs10; clear hs10 h10 HS9)
            go_upto_region 25 with (at_builtin; refine wpList_append_Sat _ rfl _ _ 22 rfl 3 i0 _ 1 8 Tryz.underlying22 HI.out.1 HI.out.2.1 HI.out.2.2.1 HI.out.2.2.2 rfl _ (gs.length + L5.length) _ rfl HS10.out _ X2.2.length _ rfl (HS10.out.own 2 rfl).rd (ints_one _) (by unfold maxLen; omega) (by omega) ?_; intro v11 w11 hs11 h11; obtain ⟨a11, c11, rfl⟩ := hs11.own_shape; have HS11 := Lib.hid hs11; clear hs11 h11 HS10)
            have HHO := Lib.hid (Holds_C on hh2 (HS11.out.front 1 rfl))
            rw [HNO.out] at HHO
            clear HS11
            go_wp2_with (go_at_call 23; refine HHO.out.mono ?_; rintro e12 w12 ⟨v12, rfl, hs12⟩; obtain ⟨cs, hcm, _, hs13⟩ := clmsOpen hs12; obtain rfl := List.map_eq_nil_iff.1 hcm; obtain ⟨a12, c12, rfl⟩ := hs13.own_shape; have HS12 := Lib.hid hs12.drop; clear hcm hs12 hs13 HHO)
            go_roundw
            case rel =>
              refine ⟨i + 1, X2.1, gs ++ L5 ++ X2.2, ls ++ [on], a11, a7, c11, c7, by go_num, by rw [List.length_append, List.length_append], by rw [List.length_append]; rfl, by omega, ?_, ?_⟩
              · have h := HEN2.out
                rw [List.length_append, List.length_append, List.length_append]
                simpa using h
              · show Sat W D1 w12 [ownS 3 1 _ (gs ++ L5 ++ X2.2).length ((gs ++ L5 ++ X2.2).map (Value.int .i64)), ownS 3 1 _ (ls ++ [on]).length ((ls ++ [on]).map (Value.int .i64)), _]
                rw [List.length_append, List.length_append, List.map_append, List.map_append, List.length_append, List.map_append]
                exact ((((HS12.out.front 1 rfl).front 4 rfl).swap.front 3 rfl).drop.front 3 rfl).drop
            case measure => simp [intOf]; omega
        · have hii : ¬ ((i : Int) < 8) := by omega
          obtain rfl : i = 8 := by omega
          have HOV := Lib.hid HEN.out.over
          have HQ0 := Lib.hid (show ((Q.held.length + Q.waits.length : Nat) : Int) = 0 by rw [HOV.out.1]; rfl)
          have HL2 := Lib.hid (Len_C (show Q.held.length + Q.waits.length ≤ 1000000 by omega) (HS4.out.front 2 rfl))
          rw [HQ0.out] at HL2
          have hsu : IntKind.i64.wrap ((gs.length : Int) + (ls.length : Int)) = m := by
            rw [IntWalk.i64_in _ (by omega), HM8.out]
            have := HOV.out.2
            omega
          go_wp2_with (go_at_call 28; refine HL2.out.mono ?_; rintro e9 w9 ⟨rfl, hk9⟩; have HS9 := Lib.hid (HS4.out.kept hk9); clear hk9 HL2 HS4)
          go_ret
          exact ⟨rfl, HEND.out D1 _ HLE.out HS9.out.drop.drop.drop⟩
end Go.Proofs.YtkdinhlmghfpeaaGreatDoor
