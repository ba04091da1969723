/- What is held by a cursor's hand ends with that hand (the law LocksHands). -/
import Derived.Test.YtgljdkjepdknnaaGreatDoorJ41
import Derived.Test.YtgljdkjepdknnaaGreatDoorJ32
namespace Go.Proofs.YtgljdkjepdknnaaGreatDoor
open Go.ChangeShapes Go.WideShapes Go.ChangeAt Go.RowKit
set_option maxRecDepth 100000
set_option linter.unusedSimpArgs false

theorem hold_one {c : Clm} {o a : Int} : holdsQ (oneK o c a).q o = [c] := one_holds o c
theorem hold_no {o : Int} : holdsQ noK.q o = [] := rfl
theorem row_cov {n : Int} : RC.cov (rowC 5 n) (rowC 5 n) = true := by
  have h : clmCov (rowC 5 n) (rowC 5 n) = true := by
    unfold clmCov
    rw [clmSame_iff.2 ⟨rfl, rfl, .inr (.inl ⟨rfl, rfl⟩)⟩, show coversM 5 5 = true by decide]
    rfl
  exact h
/-- of a few claims so many are told -/
theorem clms_len {B w : World} {D D0 : PH} {l : List HP} {v : Value} {L : List Clm} (h : Sat B D0 w (clmsP D v L :: l)) : ∃ a c, v = .slice a L.length c ∧ Sat B D0 w l := by
  obtain ⟨cs, hcs, _, hs⟩ := clmsOpen h
  obtain ⟨a, c, rfl⟩ := hs.own_shape
  exact ⟨a, c, by rw [← hcs, List.length_map], hs.drop⟩

/-- locks with little -/
structure Few1 (m : LkM) : Prop where
  held : ∀ e ∈ m.q.held, ClmSm 1000000 e.c
  len : m.q.held.length ≤ 1
  no : m.q.waits.length = 0
  why : m.why.length ≤ 1
theorem few_no : Few1 noK := ⟨fun e he => by (cases he), Nat.zero_le _, rfl, Nat.zero_le _⟩
theorem few_one (o n a : Int) : Few1 (oneK o (rowC 5 n) a) := ⟨sm_cons (rowC_sm _ _ _) sm_nil, Nat.le_refl _, rfl, Nat.le_refl _⟩
section
variable {B w : World} {D : PH} {l : List HP} {L : Nat} {m m' : LkM}
theorem askW {b : Bool} {e0 : Int} (o n dur hand : Int) (hm : Few1 m) (hk : askK m 5 true o (rowC 5 n) dur hand = (m', b, e0)) (hD : EnvD D) (h : Sat B D w (lksC D L [[false]] 5 m :: l)) :
    Calls Tryz.prog 14 #[.pointer (some ⟨L, 0, none⟩), .int .i64 o, .agg (rowE 5 n).cells.toArray, .int .i64 dur, .int .i64 hand] w (AskedL B D l L [[false]] 5 (m', b, e0)) := by
  have := Ask_L o (rowE 5 n) dur hand hD (rowE_ok D 5 n) (rowC_sm _ 5 n) row_nodes hm.held (by have := hm.len; omega) (by have := hm.no; omega) (by have := hm.why; omega) h
  rw [rowE_c, row_may (.inr (.inl rfl)), hk] at this
  exact this
theorem handW (o hand : Int) (hm : Few1 m) (hk : overK m o (bitK 2 hand) = (m', [])) (hD : EnvD D) (h : Sat B D w (lksC D L [[false]] 5 m :: l)) :
    Calls Tryz.prog 15 #[.pointer (some ⟨L, 0, none⟩), .int .i64 o, .int .i64 hand] w (EndedL B D l L [[false]] 5 (m', [])) := by
  have := EndHand_L o hand hD (by have := hm.len; have := hm.no; omega) (by have := hm.why; omega) h
  rw [hk] at this
  exact this
theorem shortW (o : Int) (hm : Few1 m) (hk : overK m o 1 = (m', [])) (hD : EnvD D) (h : Sat B D w (lksC D L [[false]] 5 m :: l)) :
    Calls Tryz.prog 16 #[.pointer (some ⟨L, 0, none⟩), .int .i64 o] w (EndedL B D l L [[false]] 5 (m', [])) := by
  have := EndShort_L o hD (by have := hm.len; have := hm.no; omega) (by have := hm.why; omega) h
  rw [hk] at this
  exact this
end
set_option maxHeartbeats 64000000 in
theorem handsLaw_ok {W : World} (n hand dur : Int) (tb : EnvD (heapOf W)) :
    Calls Tryz.prog 3 #[.int .i64 n, .int .i64 hand, .int .i64 dur] W fun r w' => r = .returned (.bool true) ∧ Kept (fun _ => False) W w' := by
  obtain ⟨D, hD⟩ : ∃ D, heapOf W = D := ⟨_, rfl⟩
  have hs0 : Sat W D W [] := by rw [← hD]; exact Sat.start W
  have HEND := Lib.hid (show ∀ w' D', PH.le D D' → Sat W D' w' [] → Kept (fun _ => False) W w' from fun w' D' le hs => hs.end_ (by rw [hD]; exact le))
  rw [hD] at tb
  have HD := Lib.hid tb
  have HAW := Lib.hid (lawake_ok tb hs0)
  clear hD tb hs0
  by_cases hh : hand = 1 ∨ hand = 2
  rotate_left
  · have n1 : ¬ hand = 1 := fun h => hh (.inl h)
    have n2 : ¬ hand = 2 := fun h => hh (.inr h)
    have m1 : (hand != 1) = true := by simp [n1]
    have m2 : (hand != 2) = true := by simp [n2]
    clear hh n1 n2
    go_enter Tryz.func3, Tryz.ntmps3
    go_wp2_with (go_at_call 11; refine HAW.out.mono ?_; rintro e1 w1 ⟨rfl, hs1⟩; have HS1 := Lib.hid hs1; clear hs1 HAW)
    go_ret
    exact ⟨rfl, HEND.out _ D (PH.le.refl _) HS1.out⟩
  have HHH := Lib.hid hh
  by_cases hd : dur = 1 ∨ dur = 3
  rotate_left
  · have n1 : ¬ dur = 1 := fun h => hd (.inl h)
    have n2 : ¬ dur = 3 := fun h => hd (.inr h)
    have d1 : (dur != 1) = true := by simp [n1]
    have d2 : (dur != 3) = true := by simp [n2]
    clear hd n1 n2
    have hb : ((hand != 1) = false) ∨ ((hand != 1) = true ∧ (hand != 2) = false) := by rcases hh with rfl | rfl <;> simp
    clear hh
    rcases hb with m1 | ⟨m1, m2⟩
    all_goals
      go_enter Tryz.func3, Tryz.ntmps3
      go_wp2_with (go_at_call 11; refine HAW.out.mono ?_; rintro e1 w1 ⟨rfl, hs1⟩; have HS1 := Lib.hid hs1; clear hs1 HAW)
      go_ret
      exact ⟨rfl, HEND.out _ D (PH.le.refl _) HS1.out⟩
  have HDD := Lib.hid hd
  have hwr : IntKind.i64.wrap (3 - hand) = 3 - hand := IntWalk.i64_in _ (by rcases hh with rfl | rfl <;> decide)
  have hb : ((hand != 1) = false) ∨ ((hand != 1) = true ∧ (hand != 2) = false) := by rcases hh with rfl | rfl <;> simp
  have hb2 : ((dur != 1) = false ∧ (dur == 3) = false) ∨ ((dur != 1) = true ∧ (dur != 3) = false ∧ (dur == 3) = true) := by rcases hd with rfl | rfl <;> simp
  have HLAST := Lib.hid (show (if dur = 3 then 1 else 0) = (if (dur == 3) = true then 1 else (0 : Nat)) by by_cases h3 : dur = 3 <;> simp [h3])
  clear hh hd
  rcases hb with m1 | ⟨m1, m2⟩ <;> rcases hb2 with ⟨d1, d3⟩ | ⟨d1, d2, d3⟩
  all_goals
    go_enter Tryz.func3, Tryz.ntmps3
    go_upto_region 4 with (go_at_call 11; refine HAW.out.mono ?_; rintro e1 w1 ⟨rfl, hs1⟩; have HS1 := Lib.hid hs1; clear hs1 HAW)
    go_upto_region 6 with fail
    obtain ⟨D0, hle0, ht0, hs0⟩ := tbl_give HS1.out
    have HNEW := Lib.hid (New_L 5 ht0 (by decide) (by decide) hs0)
    have HLE0 := Lib.hid hle0
    clear hle0 ht0 hs0 HS1
    go_upto_region 7 with (go_at_call 12; refine HNEW.out.mono ?_; rintro e2 w2 ⟨L, D1, rfl, hle1, hs2⟩; have HLE1 := Lib.hid (HLE0.out.trans hle1); have HS2 := Lib.hid (show Sat W D1 w2 [lksC D1 L [[false]] 5 noK] from hs2); clear hle1 hs2 HNEW)
    go_upto_region 8 with (first | (go_at_call 13; refine (row_ok 5 n).mono ?_; rintro e3 w3 ⟨rfl, hk3⟩; have HS3 := Lib.hid ((HS2.out.kept hk3).alloc (rowE 5 n).cells.toArray tCl); clear hk3 HS2) | (refine wpList_store_new rfl _ _ _ rfl (rowE 5 n).cells _ _ rfl rfl (by kernel_rfl) rfl (ClmE.one _) ?_))
    obtain ⟨W4, hW4, hs4⟩ := Sat.hide HS3.out
    rw [← hW4]
    clear hW4 HS3
    generalize w3.heap.size = bc at hs4 ⊢
    have HT1 := Lib.hid hs4.swap
    have HLE1 := Lib.hid HLE1.out
    clear hs4
    have HA := Lib.hid (askW 4 n 2 hand few_no (hands_ask HHH.out) (HD.out.mono HLE1.out) HT1.out)
    have HL := Lib.hid (loadCl (blk_range (HT1.out.blk 1 rfl)))
    go_upto_region 9 with (first | (refine wpList_ld rfl _ _ rfl _ _ rfl _ HL.out ?_) | (go_at_call 14; refine HA.out.mono ?_; rintro ea wt2 ⟨D2, rfl, hle, hs⟩; have HLE2 := Lib.hid (HLE1.out.trans hle); have HT2 := Lib.hid hs; clear hle hs HA HL HT1))
    have HA := Lib.hid (handW 4 (3 - hand) (few_one 4 n (bitK 2 hand)) (hands_other (row_same 5 5 n) HHH.out) (HD.out.mono HLE2.out) HT2.out)
    go_upto_region 10 with (go_at_call 15; refine HA.out.mono ?_; rintro ea wt3 ⟨vt3, D3, rfl, hle, hs⟩; have HLE3 := Lib.hid (HLE2.out.trans hle); have HT3 := Lib.hid (hs.front 1 rfl).drop; clear hle hs HA HT2)
    have HA := Lib.hid (shortW 4 (few_one 4 n (bitK 2 hand)) (hands_short (row_same 5 5 n) HHH.out) (HD.out.mono HLE3.out) HT3.out)
    go_upto_region 11 with (go_at_call 16; refine HA.out.mono ?_; rintro ea wt4 ⟨vt4, D4, rfl, hle, hs⟩; have HLE4 := Lib.hid (HLE3.out.trans hle); have HT4 := Lib.hid (hs.front 1 rfl).drop; clear hle hs HA HT3)
    have HA := Lib.hid (Holds_L 4 (by have := ((few_one 4 n (bitK 2 hand))).len; omega) ((few_one 4 n (bitK 2 hand))).held HT4.out)
    go_upto_region 12 with (go_at_call 17; refine HA.out.mono ?_; rintro ea wt5 ⟨vt5, D5, rfl, hle, hs⟩; have HLE5 := Lib.hid (HLE4.out.trans hle); obtain ⟨va5, vc5, rfl, hs'⟩ := clms_len hs; rw [show (holdsQ (oneK 4 (rowC 5 n) (bitK 2 hand)).q 4).length = 1 from by rw [one_holds]; rfl]; have HT5 := Lib.hid (lks_mono hs' hle); clear hle hs hs' HA HT4)
    have HA := Lib.hid (handW 4 hand (few_one 4 n (bitK 2 hand)) (hands_end (row_same 5 5 n) HHH.out) (HD.out.mono HLE5.out) HT5.out)
    go_upto_region 13 with (go_at_call 15; refine HA.out.mono ?_; rintro ea wt6 ⟨vt6, D6, rfl, hle, hs⟩; have HLE6 := Lib.hid (HLE5.out.trans hle); have HT6 := Lib.hid (hs.front 1 rfl).drop; clear hle hs HA HT5)
    have HA := Lib.hid (Holds_L 4 (by have := (few_no).len; omega) (few_no).held HT6.out)
    go_upto_region 14 with (go_at_call 17; refine HA.out.mono ?_; rintro ea wt7 ⟨vt7, D7, rfl, hle, hs⟩; have HLE7 := Lib.hid (HLE6.out.trans hle); obtain ⟨va7, vc7, rfl, hs'⟩ := clms_len hs; rw [show (holdsQ (noK).q 4).length = 0 from rfl]; have HT7 := Lib.hid (lks_mono hs' hle); clear hle hs hs' HA HT6)
    have HA := Lib.hid (askW 4 n 2 hand few_no (hands_ask HHH.out) (HD.out.mono HLE7.out) HT7.out)
    have HL := Lib.hid (loadCl (blk_range (HT7.out.blk 1 rfl)))
    go_upto_region 15 with (first | (refine wpList_ld rfl _ _ rfl _ _ rfl _ HL.out ?_) | (go_at_call 14; refine HA.out.mono ?_; rintro ea wt8 ⟨D8, rfl, hle, hs⟩; have HLE8 := Lib.hid (HLE7.out.trans hle); have HT8 := Lib.hid hs; clear hle hs HA HL HT7))
    have HA := Lib.hid (askW 4 n dur 0 (few_one 4 n (bitK 2 hand)) (hands_more (row_same 5 5 n) row_cov HHH.out HDD.out) (HD.out.mono HLE8.out) HT8.out)
    have HL := Lib.hid (loadCl (blk_range (HT8.out.blk 1 rfl)))
    go_upto_region 16 with (first | (refine wpList_ld rfl _ _ rfl _ _ rfl _ HL.out ?_) | (go_at_call 14; refine HA.out.mono ?_; rintro ea wt9 ⟨D9, rfl, hle, hs⟩; have HLE9 := Lib.hid (HLE8.out.trans hle); have HT9 := Lib.hid hs; clear hle hs HA HL HT8))
    have HA := Lib.hid (handW 4 hand (few_one 4 n (bits .or .u8 (bitK 2 hand) (bitK dur 0))) (hands_two (row_same 5 5 n) HHH.out HDD.out) (HD.out.mono HLE9.out) HT9.out)
    go_upto_region 17 with (go_at_call 15; refine HA.out.mono ?_; rintro ea wt10 ⟨vt10, D10, rfl, hle, hs⟩; have HLE10 := Lib.hid (HLE9.out.trans hle); have HT10 := Lib.hid (hs.front 1 rfl).drop; clear hle hs HA HT9)
    have HA := Lib.hid (Holds_L 4 (by have := ((few_one 4 n (bitK dur 0))).len; omega) ((few_one 4 n (bitK dur 0))).held HT10.out)
    go_upto_region 18 with (go_at_call 17; refine HA.out.mono ?_; rintro ea wt11 ⟨vt11, D11, rfl, hle, hs⟩; have HLE11 := Lib.hid (HLE10.out.trans hle); obtain ⟨va11, vc11, rfl, hs'⟩ := clms_len hs; rw [show (holdsQ (oneK 4 (rowC 5 n) (bitK dur 0)).q 4).length = 1 from by rw [one_holds]; rfl]; have HT11 := Lib.hid (lks_mono hs' hle); clear hle hs hs' HA HT10)
    obtain ⟨mz, hmz⟩ : ∃ mz : LkM, mz = if dur = 3 then oneK 4 (rowC 5 n) 8 else noK := ⟨_, rfl⟩
    have HFZ := Lib.hid (show Few1 mz by rw [hmz]; split <;> first | exact few_one 4 n 8 | exact few_no)
    have HMZ := Lib.hid (show (holdsQ mz.q 4).length = if (dur == 3) = true then 1 else 0 by rw [hmz, ← HLAST.out]; split <;> first | (rw [one_holds]; rfl) | rfl)
    have HLS := Lib.hid (show overK (oneK 4 (rowC 5 n) (bitK dur 0)) 4 1 = (mz, []) by rw [hmz]; exact hands_last (row_same 5 5 n) HHH.out HDD.out)
    clear hmz
    have HA := Lib.hid (shortW 4 (few_one 4 n (bitK dur 0)) (HLS.out) (HD.out.mono HLE11.out) HT11.out)
    go_upto_region 19 with (go_at_call 16; refine HA.out.mono ?_; rintro ea wt12 ⟨vt12, D12, rfl, hle, hs⟩; have HLE12 := Lib.hid (HLE11.out.trans hle); have HT12 := Lib.hid (hs.front 1 rfl).drop; clear hle hs HA HT11)
    have HA := Lib.hid (Holds_L 4 (by have := HFZ.out.len; omega) HFZ.out.held HT12.out)
    have HZ := Lib.hid (HMZ.out)
    rw [d3] at HZ
    go_wp2_with (go_at_call 17; refine HA.out.mono ?_; rintro ea wt13 ⟨vt13, D13, rfl, hle, hs⟩; have HLE13 := Lib.hid (HLE12.out.trans hle); obtain ⟨va13, vc13, rfl, hs'⟩ := clms_len hs; rw [HZ.out]; have HT13 := Lib.hid hs'; clear hle hs hs' HA HT12)
    go_ret
    exact ⟨rfl, HEND.out _ _ HLE13.out HT13.out.drop.drop⟩
end Go.Proofs.YtgljdkjepdknnaaGreatDoor
