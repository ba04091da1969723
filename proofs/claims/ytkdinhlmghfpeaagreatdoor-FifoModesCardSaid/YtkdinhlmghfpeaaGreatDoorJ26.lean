/- Of some who ask for what nobody can share each is given it in their order (the law FifoTurns). -/
import Derived.Test.YtkdinhlmghfpeaaGreatDoorJ25
import Derived.Test.YtkdinhlmghfpeaaGreatDoorJ11
import Derived.Test.YtkdinhlmghfpeaaGreatDoorJ10
namespace Go.Proofs.YtkdinhlmghfpeaaGreatDoor
open Go.ChangeShapes Go.WideShapes Go.ChangeAt Go.RowKit
set_option maxRecDepth 100000
set_option linter.unusedSimpArgs false

theorem and7 (x : Int) : ∃ q : Nat, bits .and .i64 x 7 = (q : Int) ∧ q ≤ 7 := by
  have h : (BitVec.ofInt 64 x &&& BitVec.ofInt 64 7).toNat ≤ 7 := by
    rw [BitVec.toNat_and]
    exact Nat.and_le_right
  have e : bits .and .i64 x 7 = IntKind.i64.wrap ((BitVec.ofInt 64 x &&& BitVec.ofInt 64 7).toNat : Int) := rfl
  exact ⟨_, by rw [e, IntWalk.i64_in _ (by omega)], h⟩
theorem turn_lens (i n : Nat) (hn : n ≤ 8) : (turnQ i n).held.length ≤ 1 ∧ (turnQ i n).waits.length ≤ 8 := by
  unfold turnQ
  refine ⟨?_, ?_⟩
  · dsimp only; split <;> simp
  · simp; omega
theorem turn_end (n : Nat) : turnQ n n = ⟨[], []⟩ := by
  unfold turnQ
  rw [if_neg (by omega), show n - (n + 1) = 0 by omega]
  rfl
/-- numbers that turn no more: one of them, as a world has it -/
theorem intAt {w : World} {v : Value} {ds : List Int} {k : Nat} {d : Int} (h : IntsRd w v ds) (hd : ds[k]? = some d) : ∃ g o c, v = .slice (some ⟨g, o, none⟩) ds.length c ∧ w.cell? ⟨g, o + k, none⟩ = some (.int .i64 d) := by
  obtain ⟨_, _, a, c, rfl, _, _, _, hc⟩ := h
  have hlt := (List.getElem?_eq_some_iff.1 hd).1
  rcases hc with h0 | ⟨g, o, rfl, hc⟩
  · omega
  · exact ⟨g, o, c, rfl, hc k _ (by rw [List.getElem?_map, hd]; rfl)⟩
set_option maxHeartbeats 16000000 in
theorem turns_ok {W : World} {v : Value} {ds : List Int} (x : Int) (hE : EnvD (heapOf W)) (hv : IntsRd W v ds) : Calls Tryz.prog 3 #[.int .i64 x, v] W fun e w' => e = .returned (.bool true) ∧ Kept (fun _ => False) W w' := by
  obtain ⟨D, hD⟩ : ∃ D, D = heapOf W := ⟨_, rfl⟩
  have hs0 : Sat W D W [] := by rw [hD]; exact Sat.start W
  have HEND := Lib.hid (show ∀ w', Sat W D w' [] → Kept (fun _ => False) W w' from fun w' hs => hs.end_ (by rw [hD]; exact PH.le.refl _))
  rw [← hD] at hE
  have HV := Lib.hid (show RdP D 1 v ds.length (ds.map (Value.int .i64)) by rw [hD]; exact RdP.of_rd hv (by omega))
  obtain ⟨va, vc, rfl⟩ := HV.out.shape
  have hL : ds.length ≤ 9223372036854775807 := HV.out.len
  have HE := Lib.hid hE
  have HAW := Lib.hid (awake_ok hE hs0)
  obtain ⟨q, hq, hq7⟩ := and7 x
  clear hD hs0 hE hv
  obtain ⟨L, hLe⟩ : ∃ L, ds.length = L := ⟨_, rfl⟩
  have HLL := Lib.hid hLe
  rw [hLe] at HV hL ⊢
  clear hLe
  go_enter Tryz.func3, Tryz.ntmps3
  go_upto_region 5 with (go_at_call 11; refine HAW.out.mono ?_; rintro e1 w1 ⟨rfl, hs1⟩; have HS1 := Lib.hid hs1; clear hs1 HAW)
  obtain ⟨n, hn⟩ : ∃ n : Nat, n = q + 1 := ⟨_, rfl⟩
  have hn8 : n ≤ 8 := by omega
  have hn1 : 1 ≤ n := by omega
  rw [show (1 + (q : Int)) = (n : Int) by omega]
  clear hn hq hq7
  have HNEW := Lib.hid (Modes_new HS1.out)
  go_wp2_with (go_at_call 12; refine HNEW.out.mono ?_; rintro e2 w2 ⟨qq, rfl, hs2⟩; have HS2 := Lib.hid (show Sat W D w2 (queM D qq (turnQ 0 0) :: []) from hs2); clear hs2 HNEW HS1)
  go_loopw [8] (fun ii wr => ∃ k : Nat, ii = .int .i64 k ∧ k ≤ n ∧ Sat W D wr (queM D qq (turnQ 0 k) :: [])) (fun ii _ => n - (intOf ii).toNat)
  case atStart => exact ⟨0, rfl, by omega, HS2.out⟩
  case round =>
    obtain ⟨k, rfl, hk, hs3⟩ := hrel
    have HS3 := Lib.hid hs3
    clear hs3 HS2
    by_cases hlt : k < n
    · have hki : (k : Int) < (n : Int) := by omega
      have hll := turn_lens 0 k (by omega)
      have HA := Lib.hid (Ask_M k 6 HE.out (by omega) (by omega) HS3.out)
      rw [turn_ask] at HA
      by_cases hk0 : k = 0
      · subst hk0
        go_wp2_with (go_at_call 13; refine HA.out.mono ?_; rintro e4 w4 ⟨rfl, hs4⟩; have HS4 := Lib.hid hs4; clear hs4 HA HS3)
        go_roundw
        case rel => exact ⟨0 + 1, by go_num, by omega, HS4.out⟩
        case measure => simp [intOf]; omega
      · have hd : decide (k = 0) = false := decide_eq_false hk0
        have hd2 : ((k : Int) == 0) = false := by simpa using hk0
        rw [hd] at HA
        clear hk0 hd
        go_wp2_with (go_at_call 13; refine HA.out.mono ?_; rintro e4 w4 ⟨rfl, hs4⟩; have HS4 := Lib.hid hs4; clear hs4 HA HS3)
        go_roundw
        case rel => exact ⟨k + 1, by go_num, by omega, HS4.out⟩
        case measure => simp [intOf]; omega
    · have hki : ¬ ((k : Int) < (n : Int)) := by omega
      have HKN := Lib.hid (show k = n by omega)
      rw [HKN.out] at HS3
      clear HKN
      go_wp2_with fail
      go_loopw [10] (fun ii wr => ∃ i : Nat, ii = .int .i64 i ∧ i ≤ n ∧ Sat W D wr (queM D qq (turnQ i n) :: [])) (fun ii _ => n - (intOf ii).toNat)
      case atStart => exact ⟨0, rfl, by omega, HS3.out⟩
      case round =>
        obtain ⟨i, rfl, hi, hs4⟩ := hrel
        have HS4 := Lib.hid hs4
        clear hs4 HS3 hki
        have hll := turn_lens i n hn8
        by_cases hin : i < n
        · have hii : (i : Int) < (n : Int) := by omega
          have HH := Lib.hid (Holds_M i (by omega) HS4.out)
          rw [turn_holds hin] at HH
          by_cases hlast : i + 1 < n
          · have hl2 : (i : Int) + 1 < (n : Int) := by omega
            have HBNE := Lib.hid (turn_blocks hlast)
            have hbb : (((putAll (blockL RM (turnQ i n) ((i : Int) + 1))).length : Int) == 0) = false := by
              have h0 : 0 < (putAll (blockL RM (turnQ i n) ((i : Int) + 1))).length := List.length_pos_iff.2 (fun e => HBNE.out (putAll_nil.1 (by exact_mod_cast e)))
              simp only [beq_eq_false_iff_ne, ne_eq]
              omega
            go_upto_region 17 with (first
              | (go_at_call 14; refine HH.out.mono ?_; rintro e5 w5 ⟨v5, rfl, hs5⟩; obtain ⟨a5, c5, rfl⟩ := hs5.own_shape; have HB := Lib.hid (Blockers_M ((i : Int) + 1) HE.out (by omega) hs5.drop); clear hs5 HH HS4)
              | (go_at_call 15; refine HB.out.mono ?_; rintro e6 w6 ⟨v6, rfl, hs6⟩; obtain ⟨a6, c6, rfl⟩ := hs6.own_shape; have HS6 := Lib.hid hs6.drop; clear hs6 HB; generalize (putAll (blockL RM (turnQ i n) ((i : Int) + 1))).length = bl at *))
            go_wp2_with fail
            go_loopw [11] (fun ii wr => ∃ k : Nat, ii = .int .i64 k ∧ Sat W D wr (queM D qq (turnQ i n) :: [])) (fun ii _ => 5 - (intOf ii).toNat)
            case atStart => exact ⟨0, rfl, HS6.out⟩
            case round =>
              obtain ⟨k, rfl, hs7⟩ := hrel
              have HS7 := Lib.hid hs7
              clear hs7 HS6
              by_cases hkL : k < L ∧ k < 5
              · obtain ⟨hk1, hk2⟩ := hkL
                have hki1 : (k : Int) < (L : Int) := by omega
                have hki2 : (k : Int) < 5 := by omega
                obtain ⟨d, hd⟩ : ∃ d, ds[k]? = some d := ⟨ds[k]'(by rw [HLL.out]; exact hk1), List.getElem?_eq_getElem _⟩
                obtain ⟨g, og, cc, hva, hcell⟩ := intAt (by have := HV.out.rd HS7.out; rw [← HLL.out] at this; exact this) hd
                have hva1 := (Value.slice.inj hva).1
                subst hva1
                obtain ⟨p, hp, hp7⟩ := and7 d
                clear hd hva
                go_upto_region 21 with fail
                clear hp hcell
                by_cases hgt : i < p
                · have hg2 : (i : Int) < (p : Int) := by omega
                  have HC := Lib.hid (Clear_M (p : Int) HE.out (by omega) HS7.out)
                  rw [turn_other (show (p : Int) ≠ (i : Int) by omega)] at HC
                  go_wp2_with (go_at_call 16; refine HC.out.mono ?_; rintro e8 w8 ⟨v8, rfl, hs8⟩; obtain ⟨a8, c8, rfl⟩ := (hs8.front 1 rfl).own_shape; have HS8 := Lib.hid (hs8.swap.drop); clear hs8 HC HS7)
                  go_roundw
                  case rel => exact ⟨k + 1, by go_num, HS8.out⟩
                  case measure => simp [intOf]; omega
                · have hg2 : ¬ ((i : Int) < (p : Int)) := by omega
                  go_wp2_with fail
                  go_roundw
                  case rel => exact ⟨k + 1, by go_num, HS7.out⟩
                  case measure => simp [intOf]; omega
              · have HC := Lib.hid (Clear_M (i : Int) HE.out (by omega) HS7.out)
                rw [turn_clear hlast] at HC
                have hnx : IntKind.i64.wrap ((i : Int) + 1) = (i : Int) + 1 := IntWalk.i64_in _ (by omega)
                by_cases hk1 : k < L
                · have hki1 : (k : Int) < (L : Int) := by omega
                  have hki2 : ¬ ((k : Int) < 5) := by omega
                  clear hkL
                  go_wp2_with (first
                    | (go_at_call 16; refine HC.out.mono ?_; rintro e8 w8 ⟨v8, rfl, hs8⟩; obtain ⟨a8, c8, rfl⟩ := (hs8.front 1 rfl).own_shape; have HN1 := Lib.hid (newInt hs8 ((i : Int) + 1)); have HI1 := Lib.hid (Ints_k (r := true) (HN1.out.1.own 2 rfl).rd HN1.out.2 (by simp)); clear hs8 HC HS7)
                    | (go_at_call 17; refine HI1.out.mono ?_; rintro e9 w9 ⟨rfl, hk⟩; have HS9 := Lib.hid ((HN1.out.1.kept hk).drop.swap.drop); clear hk HI1 HN1))
                  go_roundw
                  case rel => exact ⟨i + 1, by go_num, by omega, HS9.out⟩
                  case measure => simp [intOf]; omega
                · have hki1 : ¬ ((k : Int) < (L : Int)) := by omega
                  clear hkL
                  go_wp2_with (first
                    | (go_at_call 16; refine HC.out.mono ?_; rintro e8 w8 ⟨v8, rfl, hs8⟩; obtain ⟨a8, c8, rfl⟩ := (hs8.front 1 rfl).own_shape; have HN1 := Lib.hid (newInt hs8 ((i : Int) + 1)); have HI1 := Lib.hid (Ints_k (r := true) (HN1.out.1.own 2 rfl).rd HN1.out.2 (by simp)); clear hs8 HC HS7)
                    | (go_at_call 17; refine HI1.out.mono ?_; rintro e9 w9 ⟨rfl, hk⟩; have HS9 := Lib.hid ((HN1.out.1.kept hk).drop.swap.drop); clear hk HI1 HN1))
                  go_roundw
                  case rel => exact ⟨i + 1, by go_num, by omega, HS9.out⟩
                  case measure => simp [intOf]; omega
          · have hl2 : ¬ ((i : Int) + 1 < (n : Int)) := by omega
            go_upto_region 17 with (go_at_call 14; refine HH.out.mono ?_; rintro e5 w5 ⟨v5, rfl, hs5⟩; obtain ⟨a5, c5, rfl⟩ := hs5.own_shape; have HS6 := Lib.hid hs5.drop; clear hs5 HH HS4)
            go_wp2_with fail
            go_loopw [11] (fun ii wr => ∃ k : Nat, ii = .int .i64 k ∧ Sat W D wr (queM D qq (turnQ i n) :: [])) (fun ii _ => 5 - (intOf ii).toNat)
            case atStart => exact ⟨0, rfl, HS6.out⟩
            case round =>
              obtain ⟨k, rfl, hs7⟩ := hrel
              have HS7 := Lib.hid hs7
              clear hs7 HS6
              by_cases hkL : k < L ∧ k < 5
              · obtain ⟨hk1, hk2⟩ := hkL
                have hki1 : (k : Int) < (L : Int) := by omega
                have hki2 : (k : Int) < 5 := by omega
                obtain ⟨d, hd⟩ : ∃ d, ds[k]? = some d := ⟨ds[k]'(by rw [HLL.out]; exact hk1), List.getElem?_eq_getElem _⟩
                obtain ⟨g, og, cc, hva, hcell⟩ := intAt (by have := HV.out.rd HS7.out; rw [← HLL.out] at this; exact this) hd
                have hva1 := (Value.slice.inj hva).1
                subst hva1
                obtain ⟨p, hp, hp7⟩ := and7 d
                clear hd hva
                go_upto_region 21 with fail
                clear hp hcell
                by_cases hgt : i < p
                · have hg2 : (i : Int) < (p : Int) := by omega
                  have HC := Lib.hid (Clear_M (p : Int) HE.out (by omega) HS7.out)
                  rw [turn_other (show (p : Int) ≠ (i : Int) by omega)] at HC
                  go_wp2_with (go_at_call 16; refine HC.out.mono ?_; rintro e8 w8 ⟨v8, rfl, hs8⟩; obtain ⟨a8, c8, rfl⟩ := (hs8.front 1 rfl).own_shape; have HS8 := Lib.hid (hs8.swap.drop); clear hs8 HC HS7)
                  go_roundw
                  case rel => exact ⟨k + 1, by go_num, HS8.out⟩
                  case measure => simp [intOf]; omega
                · have hg2 : ¬ ((i : Int) < (p : Int)) := by omega
                  go_wp2_with fail
                  go_roundw
                  case rel => exact ⟨k + 1, by go_num, HS7.out⟩
                  case measure => simp [intOf]; omega
              · have HC := Lib.hid (Clear_M (i : Int) HE.out (by omega) HS7.out)
                have HNL := Lib.hid (show n = i + 1 by omega)
                have hbe : ((i : Int) + 1 == (n : Int)) = true := by simp only [beq_iff_eq]; omega
                rw [show dropQ RM (turnQ i n) (ofE (i : Int)) = (⟨[], []⟩, []) by rw [HNL.out]; exact turn_last (n := i + 1) (by omega)] at HC
                by_cases hk1 : k < L
                · have hki1 : (k : Int) < (L : Int) := by omega
                  have hki2 : ¬ ((k : Int) < 5) := by omega
                  clear hkL
                  go_wp2_with (go_at_call 16; refine HC.out.mono ?_; rintro e8 w8 ⟨v8, rfl, hs8⟩; obtain ⟨a8, c8, rfl⟩ := (hs8.front 1 rfl).own_shape; have HS9 := Lib.hid hs8.swap.drop; clear hs8 HC HS7)
                  go_roundw
                  case rel => exact ⟨i + 1, by go_num, by omega, by rw [← HNL.out, turn_end]; exact HS9.out⟩
                  case measure => simp [intOf]; omega
                · have hki1 : ¬ ((k : Int) < (L : Int)) := by omega
                  clear hkL
                  go_wp2_with (go_at_call 16; refine HC.out.mono ?_; rintro e8 w8 ⟨v8, rfl, hs8⟩; obtain ⟨a8, c8, rfl⟩ := (hs8.front 1 rfl).own_shape; have HS9 := Lib.hid hs8.swap.drop; clear hs8 HC HS7)
                  go_roundw
                  case rel => exact ⟨i + 1, by go_num, by omega, by rw [← HNL.out, turn_end]; exact HS9.out⟩
                  case measure => simp [intOf]; omega
        · have hii : ¬ ((i : Int) < (n : Int)) := by omega
          have HIN := Lib.hid (show turnQ i n = ⟨[], []⟩ by rw [show i = n by omega]; exact turn_end n)
          rw [HIN.out] at HS4
          have HLN := Lib.hid (Len_M (by decide) HS4.out)
          go_wp2_with (go_at_call 18; refine HLN.out.mono ?_; rintro e13 w13 ⟨rfl, hk⟩; have HS13 := Lib.hid (HS4.out.kept hk); clear hk HLN HS4)
          go_ret
          exact ⟨rfl, HEND.out _ HS13.out.drop⟩
end Go.Proofs.YtkdinhlmghfpeaaGreatDoor
