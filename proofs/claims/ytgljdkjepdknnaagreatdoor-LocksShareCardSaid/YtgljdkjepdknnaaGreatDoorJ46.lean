/- Any number of readers hold one row; a writer is given it when the last of them has ended (the law LocksShare). -/
import Derived.Test.YtgljdkjepdknnaaGreatDoorJ41
import Derived.Test.YtgljdkjepdknnaaGreatDoorJ45
namespace Go.Proofs.YtgljdkjepdknnaaGreatDoor
open Go.ChangeShapes Go.WideShapes Go.ChangeAt Go.RowKit
set_option maxRecDepth 100000
set_option linter.unusedSimpArgs false

theorem and_le (x : Int) (k : Nat) (hk : k ≤ 2000) : ∃ q : Nat, bits .and .i64 x (k : Int) = (q : Int) ∧ q ≤ k := by
  have h : (BitVec.ofInt 64 x &&& BitVec.ofInt 64 (k : Int)).toNat ≤ k := by
    rw [BitVec.toNat_and]
    refine Nat.le_trans Nat.and_le_right ?_
    rw [BitVec.toNat_ofInt]
    have : ((k : Int) % ((2 ^ 64 : Nat) : Int)).toNat = k := by omega
    omega
  have e : bits .and .i64 x (k : Int) = IntKind.i64.wrap ((BitVec.ofInt 64 x &&& BitVec.ofInt 64 (k : Int)).toNat : Int) := rfl
  exact ⟨_, by rw [e, IntWalk.i64_in _ (by omega)], h⟩
abbrev rdC : Clm := rowC 3 1
abbrev wrC : Clm := rowC 6 1
theorem sh_cc : RC.conf rdC rdC = false := by kernel_rfl
theorem sh_cx : RC.conf rdC wrC = true := by kernel_rfl
theorem sh_xc : RC.conf wrC rdC = true := by kernel_rfl
def shG (k : Nat) : List Int := (List.range k).map (fun (j : Nat) => (j : Int))
theorem shG_succ (k : Nat) : shG (k + 1) = shG k ++ [(k : Int)] := by unfold shG; rw [List.range_succ, List.map_append]; rfl
theorem shG_no (k : Nat) : (k : Int) ∉ shG k := by
  intro h
  obtain ⟨j, hj, hh⟩ := List.mem_map.1 h
  rw [List.mem_range] at hj
  omega
theorem shG_len (k : Nat) : (shG k).length = k := by unfold shG; simp
theorem shG_grp (n : Nat) (s : Int) : grp n s 0 = shG n := rfl
/-- the claims of these locks are small -/
theorem sh_sm {c x : Clm} {G : List Int} {W : List (Ent Clm)} {N : Nat} (h : ClmSm N c) : ∀ e ∈ (shareW c x G W).held, ClmSm N e.c := by
  intro e he
  obtain ⟨g, _, rfl⟩ := List.mem_map.1 he
  exact h
set_option maxHeartbeats 64000000 in
theorem shareLaw_ok {W : World} (many first : Int) (tb : EnvD (heapOf W)) :
    Calls Tryz.prog 6 #[.int .i64 many, .int .i64 first] W fun r w' => r = .returned (.bool true) ∧ Kept (fun _ => False) W w' := by
  obtain ⟨D, hD⟩ : ∃ D, heapOf W = D := ⟨_, rfl⟩
  have hs0 : Sat W D W [] := by rw [← hD]; exact Sat.start W
  have HEND := Lib.hid (show ∀ w' D', PH.le D D' → Sat W D' w' [] → Kept (fun _ => False) W w' from fun w' D' le hs => hs.end_ (by rw [hD]; exact le))
  rw [hD] at tb
  have HD := Lib.hid tb
  have HAW := Lib.hid (lawake_ok tb hs0)
  clear hD tb hs0
  obtain ⟨q, hq, hq7⟩ := and_le many 7 (by decide)
  obtain ⟨s, hs, hs7⟩ := and_le first 1023 (by decide)
  have HSS := Lib.hid hs
  clear hs
  go_enter Tryz.func6, Tryz.ntmps6
  go_upto_region 4 with (go_at_call 11; refine HAW.out.mono ?_; rintro e1 w1 ⟨rfl, hs1⟩; have HS1 := Lib.hid hs1; clear hs1 HAW)
  rw [show ((7 : Nat) : Int) = 7 from rfl] at hq
  go_upto_region 5 with fail
  obtain ⟨n, hn⟩ : ∃ n : Nat, n = q + 1 := ⟨_, rfl⟩
  have hn8 : n ≤ 8 := by omega
  have hn1 : 1 ≤ n := by omega
  rw [show (1 + (q : Int)) = (n : Int) by omega]
  clear hn hq hq7
  obtain ⟨D0, hle0, ht0, hs0⟩ := tbl_give HS1.out
  have HNEW := Lib.hid (New_L 50 ht0 (by decide) (by decide) hs0)
  have HLE0 := Lib.hid hle0
  clear hle0 ht0 hs0 HS1
  go_upto_region 6 with (go_at_call 12; refine HNEW.out.mono ?_; rintro e2 w2 ⟨L, D1, rfl, hle1, hs2⟩; have HLE1 := Lib.hid (HLE0.out.trans hle1); have HS2 := Lib.hid (show Sat W D1 w2 [lksC D1 L [[false]] 50 ⟨shareQ rdC (shG 0), []⟩] from hs2); clear hle1 hs2 HNEW)
  go_wp2_with fail
  go_loopw [8] (fun ii wr => ∃ (k : Nat) (D2 : PH) (m : LkM), ii = .int .i64 k ∧ k ≤ n ∧ PH.le D D2 ∧ m.q = shareQ rdC (shG k) ∧ m.why.length ≤ k ∧ Sat W D2 wr [lksC D2 L [[false]] 50 m]) (fun ii _ => n - (intOf ii).toNat)
  case atStart => exact ⟨0, D1, _, rfl, by omega, HLE1.out, rfl, Nat.le_refl _, HS2.out⟩
  case round =>
    obtain ⟨k, D2, m, rfl, hk, hle, hm, hwy, hs3⟩ := hrel
    have HLE := Lib.hid hle
    have HM := Lib.hid hm
    have HS3 := Lib.hid hs3
    clear hle hm hs3 HS2
    by_cases hlt : k < n
    · have hii : (k : Int) < (n : Int) := by omega
      go_wp2_with (first
        | (go_at_call 13; refine (row_ok 3 1).mono ?_; rintro er wrr ⟨rfl, hkr⟩; have HA := Lib.hid (Ask_L (m := m) (k : Int) (rowE 3 1) 3 0 (HD.out.mono HLE.out) (rowE_ok _ _ _) (rowC_sm _ _ _) row_nodes (by rw [HM.out]; exact sh_sm (x := rdC) (W := []) (rowC_sm _ _ _)) (by rw [HM.out]; show (List.map _ (shG k)).length ≤ _; rw [List.length_map, shG_len]; omega) (by rw [HM.out]; exact Nat.zero_le _) (by omega) (HS3.out.kept hkr)); rw [rowE_c, row_may (.inl rfl), shareK_read HM.out (shG_no k) (by rw [shG_len]; omega) sh_cc, ← shG_succ] at HA; clear hkr)
        | (go_at_call 14; refine HA.out.mono ?_; rintro ea wa ⟨D4, rfl, hle, hs⟩; have HLE4 := Lib.hid (HLE.out.trans hle); have HS4 := Lib.hid hs; clear hle hs HA HS3))
      go_roundw
      case rel => exact ⟨k + 1, D4, _, by go_num, by omega, HLE4.out, rfl, Nat.le_trans (noteR_len _ _ _ _) (by omega), HS4.out⟩
      case measure => simp [intOf]; omega
    · have hii : ¬ ((k : Int) < (n : Int)) := by omega
      obtain rfl : k = n := by omega
      have hG0 : shG k ≠ [] := by intro h; have := shG_len k; rw [h] at this; simp at this; omega
      have hbig : ∀ o : Int, 20 ≤ o → o ∉ shG k := fun o ho => by rw [← shG_grp k s]; exact grp_big hn8 ho
      have HG0 := Lib.hid hG0
      have HBIG := Lib.hid hbig
      clear hG0 hbig
      go_upto_region 13 with (first
        | (go_at_call 13; refine (row_ok 6 1).mono ?_; rintro er wrr ⟨rfl, hkr⟩; have HA := Lib.hid (Ask_L (m := m) 20 (rowE 6 1) 3 0 (HD.out.mono HLE.out) (rowE_ok _ _ _) (rowC_sm _ _ _) row_nodes (by rw [HM.out]; exact sh_sm (x := rdC) (W := []) (rowC_sm _ _ _)) (by rw [HM.out]; show (List.map _ (shG k)).length ≤ _; rw [List.length_map, shG_len]; omega) (by rw [HM.out]; exact Nat.zero_le _) (by omega) (HS3.out.kept hkr)); rw [rowE_c, row_may (.inr (.inr rfl)), shareK_write (x := wrC) HM.out (HBIG.out 20 (by omega)) HG0.out (by rw [shG_len]; omega) sh_cx] at HA; clear hkr)
        | (go_at_call 14; refine HA.out.mono ?_; rintro ea wa ⟨D4, rfl, hle, hs⟩; have HLE4 := Lib.hid (HLE.out.trans hle); have HS4 := Lib.hid hs; clear hle hs HA HS3))
      obtain ⟨m4, hm4⟩ : ∃ m4 : LkM, m4 = ⟨shareW rdC wrC (shG k) [rdE wrC 20], noteR m.why 20 wrC 8⟩ := ⟨_, rfl⟩
      rw [← hm4] at HS4
      have HM4 := Lib.hid (show m4.q = shareW rdC wrC (shG k) [rdE wrC 20] by rw [hm4])
      have hw4 : m4.why.length ≤ 9 := by rw [hm4]; exact Nat.le_trans (noteR_len _ _ _ _) (by omega)
      clear hm4
      go_upto_region 14 with (first
        | (go_at_call 13; refine (row_ok 3 1).mono ?_; rintro er wrr ⟨rfl, hkr⟩; have HA := Lib.hid (Ask_L (m := m4) 21 (rowE 3 1) 3 0 (HD.out.mono HLE4.out) (rowE_ok _ _ _) (rowC_sm _ _ _) row_nodes (by rw [HM4.out]; exact sh_sm (rowC_sm _ _ _)) (by rw [HM4.out]; show (List.map _ (shG k)).length ≤ _; rw [List.length_map, shG_len]; omega) (by rw [HM4.out]; show [rdE wrC 20].length ≤ _; decide) (by omega) (HS4.out.kept hkr)); rw [rowE_c, row_may (.inl rfl), shareK_late (x := wrC) HM4.out (HBIG.out 21 (by omega)) (by decide) (by rw [shG_len]; omega) sh_xc] at HA; clear hkr)
        | (go_at_call 14; refine HA.out.mono ?_; rintro ea wa5 ⟨D5, rfl, hle, hs⟩; have HLE5 := Lib.hid (HLE4.out.trans hle); have HS5 := Lib.hid hs; clear hle hs HA HS4))
      obtain ⟨m5, hm5⟩ : ∃ m5 : LkM, m5 = ⟨shareW rdC wrC (shG k) [rdE wrC 20, rdE rdC 21], noteR m4.why 21 rdC 8⟩ := ⟨_, rfl⟩
      rw [← hm5] at HS5
      have HM5 := Lib.hid (show m5.q = shareW rdC wrC (shG k) [rdE wrC 20, rdE rdC 21] by rw [hm5])
      have hw5 : m5.why.length ≤ 10 := by rw [hm5]; exact Nat.le_trans (noteR_len _ _ _ _) (by omega)
      clear hm5
      have HBK := Lib.hid (Blockers_L (m := m5) 20 (HD.out.mono HLE5.out) (by rw [HM5.out]; show (List.map _ (shG k)).length + [rdE wrC 20, rdE rdC 21].length ≤ _; rw [List.length_map, shG_len]; simp; omega) HS5.out)
      rw [HM5.out, share_block (HBIG.out 20 (by omega)) sh_cx, ← shG_grp k s] at HBK
      have HPL := Lib.hid (grp_put (s : Int) hn1 hn8)
      go_upto_region 16 with (go_at_call 28; refine HBK.out.mono ?_; rintro eb wb ⟨u, rfl, hs⟩; obtain ⟨ba, bc, rfl⟩ := hs.own_shape; rw [HPL.out] at hs ⊢; have HS6 := Lib.hid hs.drop; clear hs HBK HS5)
      have hn1' : 0 < k := hn1
      rw [← shG_grp k s] at HM5
      clear HM HM4 HG0 HBIG HPL hii hwy hw4
      go_wp2_with fail
      go_loopw [15] (fun ii wr2 => ∃ (i : Nat) (D7 : PH) (m7 : LkM), ii = .int .i64 i ∧ i ≤ k ∧ PH.le D D7 ∧ m7.q = (if i < k then shareW rdC wrC (grp k s i) [rdE wrC 20, rdE rdC 21] else shareW wrC rdC [20] [rdE rdC 21]) ∧ m7.why.length ≤ 10 ∧ Sat W D7 wr2 [lksC D7 L [[false]] 50 m7]) (fun ii _ => k - (intOf ii).toNat)
      case atStart => exact ⟨0, D5, m5, rfl, by omega, HLE5.out, by rw [if_pos hn1', HM5.out], hw5, HS6.out⟩
      case round =>
        obtain ⟨i, D7, m7, rfl, hi, hle7, hm7, hw7, hs7⟩ := hrel
        have HLE7 := Lib.hid hle7
        have HS7 := Lib.hid hs7
        clear hle7 hs7 HS6
        by_cases hlt2 : i < k
        · rw [if_pos hlt2] at hm7
          have HM7 := Lib.hid hm7
          clear hm7
          have hii2 : (i : Int) < (k : Int) := by omega
          go_upto_region 20 with fail
          have hmod : (wrap64 (bits BinOp.and IntKind.i64 first 1023 + (i : Int))).tmod (k : Int) = ((s : Int) + (i : Int)) % (k : Int) := by
            rw [show bits BinOp.and IntKind.i64 first 1023 = (s : Int) from HSS.out, ← IntWalk.i64_left, IntWalk.i64_in _ (by omega), Int.tmod_eq_emod_of_nonneg (by omega)]
          rw [hmod]
          clear hmod
          have HMEM := Lib.hid (grp_at (s := (s : Int)) hn8 hlt2)
          obtain ⟨o, ho⟩ : ∃ o, o = ((s : Int) + (i : Int)) % (k : Int) := ⟨_, rfl⟩
          rw [← ho] at HMEM ⊢
          have hob := (grp_mem.1 HMEM.out).1
          have hGs : grp k s (i + 1) = (grp k s i).filter (fun a => decide (a ≠ o)) := by rw [ho]; rfl
          have HGS := Lib.hid hGs
          have HO := Lib.hid ho
          have hsz : m7.q.held.length + m7.q.waits.length ≤ 1000 := by
            rw [HM7.out]
            show (List.map _ (grp k s i)).length + [rdE wrC 20, rdE rdC 21].length ≤ _
            have := grp_len (n := k) (s := s) (i := i)
            rw [List.length_map]
            simp
            omega
          have HE := Lib.hid (End_L (m := m7) o (HD.out.mono HLE7.out) hsz HS7.out)
          have h20 : (20 : Int) ∉ grp k s i := grp_big hn8 (by omega)
          have hg0 := grp_no (s := (s : Int)) hn8 hlt2
          by_cases hlast : i + 1 < k
          · have hg1 := grp_no (s := (s : Int)) hn8 hlast
            rw [hGs] at hg1
            rw [share_end HM7.out (by omega) (by omega) h20 (by decide) hg1 sh_cx sh_xc, ← hGs] at HE
            have hi1 : (i : Int) + 1 < (k : Int) := by omega
            have hi2 : ((i : Int) + 1 == (k : Int)) = false := by simp; omega
            clear ho hGs hg1 hg0 h20 hsz hob
            go_wp2_with (go_at_call 29; refine HE.out.mono ?_; rintro ee we ⟨v8, D8, rfl, hle, hs⟩; obtain ⟨va, vc, rfl⟩ := (hs.front 1 rfl).own_shape; have HLE8 := Lib.hid (HLE7.out.trans hle); have HS8 := Lib.hid (hs.front 1 rfl).drop; clear hle hs HE HS7)
            go_roundw
            case rel => exact ⟨i + 1, D8, _, by go_num, by omega, HLE8.out, by rw [if_pos hlast], (show (forgetR m7.why o (fun _ => true)).length ≤ 10 from Nat.le_trans (forgetR_len _ _ _) hw7), HS8.out⟩
            case measure => simp [intOf]; omega
          · have hik : i + 1 = k := by omega
            have hg1 : (grp k s i).filter (fun a => decide (a ≠ o)) = [] := by rw [← hGs, hik]; exact grp_end hn1 hn8
            rw [share_last HM7.out (by omega) (by omega) h20 (by decide) hg0 hg1 sh_cx sh_xc] at HE
            have hi1 : ¬ (i : Int) + 1 < (k : Int) := by omega
            have hi2 : ((i : Int) + 1 == (k : Int)) = true := by simp; omega
            have HIK := Lib.hid hik
            clear ho hGs hg1 hg0 h20 hsz hob hik
            go_wp2_with (first
              | (go_at_call 29; refine HE.out.mono ?_; rintro ee we ⟨v8, D8, rfl, hle, hs⟩; have HLE8 := Lib.hid (HLE7.out.trans hle); have HN8 := Lib.hid (newInt (show Sat W D8 we (lksC D8 L [[false]] 50 ⟨shareW wrC rdC [20] [rdE rdC 21], forgetR m7.why o (fun _ => true)⟩ :: intsP v8 [20] :: []) from hs) 20); have HI8 := Lib.hid (Ints_k (r := true) (HN8.out.1.own 2 rfl).rd HN8.out.2 (by decide)); clear hle hs HE HS7)
              | (go_at_call 30; refine HI8.out.mono ?_; rintro e9 w9 ⟨rfl, hk9⟩; have HS9 := Lib.hid (HN8.out.1.kept hk9).drop.swap.drop; clear hk9 HI8 HN8))
            go_roundw
            case rel => exact ⟨i + 1, D8, _, by go_num, by omega, HLE8.out, by rw [if_neg hlast], (show (forgetR m7.why o (fun _ => true)).length ≤ 10 from Nat.le_trans (forgetR_len _ _ _) hw7), HS9.out⟩
            case measure => simp [intOf]; omega
        · rw [if_neg hlt2] at hm7
          have HM7 := Lib.hid hm7
          clear hm7
          have hii2 : ¬ (i : Int) < (k : Int) := by omega
          have HBK := Lib.hid (Blockers_L (m := m7) 21 (HD.out.mono HLE7.out) (by rw [HM7.out]; decide) HS7.out)
          rw [HM7.out, share_block2 (by decide) sh_xc, show putAll [(20 : Int)] = [20] by decide] at HBK
          go_wp2_with (first
            | (go_at_call 28; refine HBK.out.mono ?_; rintro eb wb ⟨u, rfl, hs⟩; have HN8 := Lib.hid (newInt hs 20); have HI8 := Lib.hid (Ints_k (r := true) (HN8.out.1.own 1 rfl).rd HN8.out.2 (by decide)); clear hs HBK HS7)
            | (go_at_call 30; refine HI8.out.mono ?_; rintro e9 w9 ⟨rfl, hk9⟩; have HS9 := Lib.hid (HN8.out.1.kept hk9).drop.drop; have HE := Lib.hid (End_L (m := m7) 20 (HD.out.mono HLE7.out) (by rw [HM7.out]; decide) HS9.out); rw [share_writer HM7.out (by decide) sh_xc] at HE; clear hk9 HI8 HN8)
            | (go_at_call 29; refine HE.out.mono ?_; rintro ee we ⟨v10, D10, rfl, hle, hs⟩; have HLE10 := Lib.hid (HLE7.out.trans hle); have HN10 := Lib.hid (newInt (show Sat W D10 we (lksC D10 L [[false]] 50 ⟨shareQ rdC [21], forgetR m7.why 20 (fun _ => true)⟩ :: intsP v10 [21] :: []) from hs) 21); have HI10 := Lib.hid (Ints_k (r := true) (HN10.out.1.own 2 rfl).rd HN10.out.2 (by decide)); clear hle hs HE HS9)
            | (go_at_call 30; refine HI10.out.mono ?_; rintro e11 w11 ⟨rfl, hk11⟩; have HS11 := Lib.hid (HN10.out.1.kept hk11).drop; have HLN := Lib.hid (Len_L (by show (List.map _ [(21 : Int)]).length + 0 ≤ _; simp) HS11.out); rw [show ((shareQ rdC [21]).held.length + (shareQ rdC [21]).waits.length : Nat) = 1 from rfl] at HLN; clear hk11 HI10 HN10)
            | (go_at_call 27; refine HLN.out.mono ?_; rintro e12 w12 ⟨rfl, hk12⟩; have HS12 := Lib.hid (HS11.out.kept hk12); clear hk12 HLN HS11))
          go_ret
          exact ⟨rfl, HEND.out _ _ HLE10.out HS12.out.drop.drop⟩
end Go.Proofs.YtgljdkjepdknnaaGreatDoor
