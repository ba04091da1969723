/- The document's example (ratlinelaw10.awake) answers true. (printed by genawake.py) -/
import Derived.Test.YtkdinhlmghfpeaaGreatDoorJ24
import Derived.Test.YtkdinhlmghfpeaaGreatDoorJ23
namespace Go.Proofs.YtkdinhlmghfpeaaGreatDoor
open Go.ChangeShapes Go.WideShapes Go.ChangeAt Go.RowKit
set_option maxRecDepth 100000
set_option linter.unusedSimpArgs false

/-- a claim on the first table -/
abbrev clK (m : Int) : ClmE := ⟨1, 0, m, ⟨false, 0, ⟨#[]⟩⟩, none, 0, 0, [], pr0⟩
abbrev cK (m : Int) : Clm := ⟨1, 0, m, ⟨false, 0, ⟨#[]⟩⟩, [], .mk 0 0 ⟨false, 0, ⟨#[]⟩⟩ ⟨false, 0, ⟨#[]⟩⟩ []⟩
theorem clK_ok (D : PH) (m : Int) : ClOk D (clK m) := ⟨(cl0_ok D).1, predsAt_nil D⟩
theorem cK_sm (N : Nat) (m : Int) : ClmSm N (cK m) := ⟨Nat.zero_le _, fun r hr => (by cases hr), .mk _ _ _ _ [] (Nat.zero_le _) (fun q hq => (by cases hq))⟩
theorem sm_nil {N : Nat} : ∀ e ∈ ([] : List (Ent Clm)), ClmSm N e.c := fun e he => by cases he
theorem sm_cons {N : Nat} {a : Ent Clm} {l : List (Ent Clm)} (h : ClmSm N a.c) (t : ∀ e ∈ l, ClmSm N e.c) : ∀ e ∈ a :: l, ClmSm N e.c := fun e he => by
  rcases List.mem_cons.1 he with rfl | he
  · exact h
  · exact t e he
theorem run_build_cl (w : World) (m : Int) : (Instr.build tCl #[(0, .int .i64 1), (2, .int .i64 m)]).run Tryz.prog w = .ok (.agg (clK m).cells.toArray) w := run_build w _ _ _ (by kernel_rfl)
theorem wpList_build_cl {w : World} {o : Oper} {a : Act} {ops : Array Oper} {rest : List Oper} {Q : Exit → Act → World → Prop} (hgd : o.guard = none) (xo xc : Operand) (ho : o.op = .build tCl #[(0, xo), (2, xc)]) (m : Int) (h1 : a.eval xo = .int .i64 1) (h2 : a.eval xc = .int .i64 m)
    (h : wpList Tryz.prog ops Q rest (a.put o.dst (.agg (clK m).cells.toArray)) w) : wpList Tryz.prog ops Q (o :: rest) a w :=
  wpList_plain hgd fun _ hK => by
    have hrun := run_build_cl w m
    unfold Oper.wp execOp
    simp only [ho, List.map_toArray, List.map_cons, List.map_nil, h1, h2, Sem.run_bind, Sem.run_pure, Result.andThen_ok, hrun]
    exact hK _ _ h
theorem Ints_k {w : World} {v1 v2 : Value} {l1 l2 : List Int} {r : Bool} (h1 : IntsRd w v1 l1) (h2 : IntsRd w v2 l2) (hr : decide (l1 = l2) = r) :
    Calls Tryz.prog 17 #[v1, v2] w fun e w' => e = .returned (.bool r) ∧ Kept (fun _ => False) w w' := by
  refine (Ints_ok h1 h2).mono ?_
  rintro e w' ⟨rfl, n, rfl⟩
  exact ⟨by rw [hr], (Kept.refl _ _).drewN n⟩
theorem newInt {B w : World} {D : PH} {l : List HP} (h : Sat B D w l) (n : Int) : Sat B D (w.alloc (.cells #[.int .i64 n] 3)) (blk w.heap.size #[.int .i64 n] 3 :: l) ∧ IntsRd (w.alloc (.cells #[.int .i64 n] 3)) (.slice (some ⟨w.heap.size, 0, none⟩) 1 1) [n] := by
  have h1 := h.alloc #[.int .i64 n] 3
  exact ⟨h1, rd_block (size := 1) (n := 1) (h1.blk 0 rfl) rfl (by unfold maxLen; omega)⟩
abbrev aQ0 : Qm Clm := ⟨[], []⟩
abbrev aQ1 : Qm Clm := ⟨[⟨1, cK 3, false⟩], []⟩
abbrev aQ2 : Qm Clm := ⟨[⟨1, cK 3, false⟩, ⟨2, cK 3, false⟩], []⟩
abbrev aQ3 : Qm Clm := ⟨[⟨1, cK 3, false⟩, ⟨2, cK 3, false⟩], [⟨3, cK 6, false⟩]⟩
abbrev aQ4 : Qm Clm := ⟨[⟨1, cK 3, false⟩, ⟨2, cK 3, false⟩], [⟨3, cK 6, false⟩, ⟨4, cK 3, false⟩]⟩
abbrev aQ5 : Qm Clm := ⟨[⟨1, cK 3, false⟩, ⟨2, cK 3, false⟩], [⟨1, cK 6, true⟩, ⟨3, cK 6, false⟩, ⟨4, cK 3, false⟩]⟩
abbrev aQ6 : Qm Clm := ⟨[⟨1, cK 6, false⟩], [⟨3, cK 6, false⟩, ⟨4, cK 3, false⟩]⟩
abbrev aQ7 : Qm Clm := ⟨[⟨3, cK 6, false⟩], [⟨4, cK 3, false⟩]⟩
theorem aA1 : askQ RC aQ0 1 (cK 3) true = (aQ1, true) := by kernel_rfl
theorem aA2 : askQ RC aQ1 2 (cK 3) true = (aQ2, true) := by kernel_rfl
theorem aA3 : askQ RC aQ2 3 (cK 6) true = (aQ3, false) := by kernel_rfl
theorem aA4 : askQ RC aQ3 4 (cK 3) true = (aQ4, false) := by kernel_rfl
theorem aA5 : askQ RC aQ4 1 (cK 6) true = (aQ5, false) := by kernel_rfl
theorem aA6 : dropQ RC aQ5 (goneP 2 [cK 3]) = (aQ6, [1]) := by kernel_rfl
theorem aA7 : dropQ RC aQ6 (ofE 1) = (aQ7, [3]) := by kernel_rfl
theorem aA8 : putAll (blockL RC aQ7 4) = [3] := by kernel_rfl
set_option maxHeartbeats 8000000 in
theorem awake_ok {B w : World} {D : PH} {l : List HP} (hD : EnvD D) (h : Sat B D w l) : Calls Tryz.prog 11 #[] w fun r w' => r = .returned (.bool true) ∧ Sat B D w' l := by
  obtain ⟨i0, hi, hz0, hz1, hz2⟩ := info_parts infoCl
  have HI := Lib.hid (And.intro hi (And.intro hz0 (And.intro hz1 hz2)))
  have HNEW := Lib.hid (Claims_new h)
  have HD0 := Lib.hid hD
  clear h hi hz0 hz1 hz2 hD
  go_enter Tryz.func11, Tryz.ntmps11
  go_upto_region 2 with (go_at_call 25; refine HNEW.out.mono ?_; rintro e1 w1 ⟨q, rfl, hs1⟩; have HS1 := Lib.hid hs1; clear hs1 HNEW)
  have HS1a := Lib.hid (HS1.out.alloc (clK 3).cells.toArray tCl)
  go_upto_region 3 with (first | (refine wpList_build_cl rfl _ _ rfl 3 rfl rfl ?_) | (refine wpList_store_new rfl _ _ _ rfl (clK 3).cells _ _ rfl rfl (by kernel_rfl) rfl (ClmE.one _) ?_))
  obtain ⟨W1, hW1, hs1a⟩ := Sat.hide HS1a.out
  rw [← hW1]
  clear hW1 HS1a HS1
  generalize w1.heap.size = b2 at hs1a ⊢
  have HS1b := Lib.hid (hs1a.alloc (clK 6).cells.toArray tCl)
  clear hs1a
  go_upto_region 4 with (first | (refine wpList_build_cl rfl _ _ rfl 6 rfl rfl ?_) | (refine wpList_store_new rfl _ _ _ rfl (clK 6).cells _ _ rfl rfl (by kernel_rfl) rfl (ClmE.one _) ?_))
  obtain ⟨W2, hW2, hs2⟩ := Sat.hide HS1b.out
  rw [← hW2]
  clear hW2 HS1b
  generalize W1.heap.size = b3 at hs2 ⊢
  have HS2 := Lib.hid (show Sat B D W2 (queC D q aQ0 :: blk b2 (clK 3).cells.toArray tCl :: blk b3 (clK 6).cells.toArray tCl :: l) from hs2.rot.swap)
  clear hs2
  have HLE0 := Lib.hid (PH.le.refl D)
  have HL := Lib.hid (loadCl (x := clK 3) (blk_range (HS2.out.blk 1 rfl)))
  have HA := Lib.hid (Ask_C (w := W2) (Q := aQ0) 1 (clK 3) (HD0.out.mono HLE0.out) (clK_ok _ _) (cK_sm _ _) sm_nil (by decide) (by decide) HS2.out)
  rw [show askQ RC aQ0 1 (clK 3).c true = _ from aA1] at HA
  go_upto_region 5 with (first | (refine wpList_ld rfl _ _ rfl _ _ rfl _ HL.out ?_) | (go_at_call 40; refine HA.out.mono ?_; rintro e3 wA1 ⟨D1, rfl, hle, hs⟩; have HLE1 := Lib.hid (HLE0.out.trans hle); have HSA1 := Lib.hid hs; clear hle hs HA HL))
  have HL := Lib.hid (loadCl (x := clK 3) (blk_range (HSA1.out.blk 1 rfl)))
  have HA := Lib.hid (Ask_C (w := wA1) (Q := aQ1) 2 (clK 3) (HD0.out.mono HLE1.out) (clK_ok _ _) (cK_sm _ _) (sm_cons (cK_sm _ _) sm_nil) (by decide) (by decide) HSA1.out)
  rw [show askQ RC aQ1 2 (clK 3).c true = _ from aA2] at HA
  go_upto_region 6 with (first | (refine wpList_ld rfl _ _ rfl _ _ rfl _ HL.out ?_) | (go_at_call 40; refine HA.out.mono ?_; rintro e3 wA2 ⟨D2, rfl, hle, hs⟩; have HLE2 := Lib.hid (HLE1.out.trans hle); have HSA2 := Lib.hid hs; clear hle hs HA HL))
  have HL := Lib.hid (loadCl (x := clK 6) (blk_range (HSA2.out.blk 2 rfl)))
  have HA := Lib.hid (Ask_C (w := wA2) (Q := aQ2) 3 (clK 6) (HD0.out.mono HLE2.out) (clK_ok _ _) (cK_sm _ _) (sm_cons (cK_sm _ _) (sm_cons (cK_sm _ _) sm_nil)) (by decide) (by decide) HSA2.out)
  rw [show askQ RC aQ2 3 (clK 6).c true = _ from aA3] at HA
  go_upto_region 7 with (first | (refine wpList_ld rfl _ _ rfl _ _ rfl _ HL.out ?_) | (go_at_call 40; refine HA.out.mono ?_; rintro e3 wA3 ⟨D3, rfl, hle, hs⟩; have HLE3 := Lib.hid (HLE2.out.trans hle); have HSA3 := Lib.hid hs; clear hle hs HA HL))
  have HL := Lib.hid (loadCl (x := clK 3) (blk_range (HSA3.out.blk 1 rfl)))
  have HA := Lib.hid (Ask_C (w := wA3) (Q := aQ3) 4 (clK 3) (HD0.out.mono HLE3.out) (clK_ok _ _) (cK_sm _ _) (sm_cons (cK_sm _ _) (sm_cons (cK_sm _ _) sm_nil)) (by decide) (by decide) HSA3.out)
  rw [show askQ RC aQ3 4 (clK 3).c true = _ from aA4] at HA
  go_upto_region 8 with (first | (refine wpList_ld rfl _ _ rfl _ _ rfl _ HL.out ?_) | (go_at_call 40; refine HA.out.mono ?_; rintro e3 wA4 ⟨D4, rfl, hle, hs⟩; have HLE4 := Lib.hid (HLE3.out.trans hle); have HSA4 := Lib.hid hs; clear hle hs HA HL))
  have HL := Lib.hid (loadCl (x := clK 6) (blk_range (HSA4.out.blk 2 rfl)))
  have HA := Lib.hid (Ask_C (w := wA4) (Q := aQ4) 1 (clK 6) (HD0.out.mono HLE4.out) (clK_ok _ _) (cK_sm _ _) (sm_cons (cK_sm _ _) (sm_cons (cK_sm _ _) sm_nil)) (by decide) (by decide) HSA4.out)
  rw [show askQ RC aQ4 1 (clK 6).c true = _ from aA5] at HA
  go_upto_region 9 with (first | (refine wpList_ld rfl _ _ rfl _ _ rfl _ HL.out ?_) | (go_at_call 40; refine HA.out.mono ?_; rintro e3 wA5 ⟨D5, rfl, hle, hs⟩; have HLE5 := Lib.hid (HLE4.out.trans hle); have HSA5 := Lib.hid hs; clear hle hs HA HL))
  have HL := Lib.hid (loadCl (x := clK 3) (blk_range (HSA5.out.blk 1 rfl)))
  have hgv := Sat.own_fresh (e := tCl) (size := 16) (n := 1) (cap := 1) (cs := (clK 3).cells.toArray) (xs := (clK 3).cells) HSA5.out (by omega) (by unfold maxLen; omega) (by simp [ClmE.len]) (show (clK 3).cells.take (1 * 16) = _ from List.take_of_length_le (by rw [ClmE.len]; decide)) (ClmE.one _)
  obtain ⟨D6, hle6, hrd6, hs6⟩ := hgv.own_give
  have HLE6 := Lib.hid (HLE5.out.trans hle6)
  have HDR := Lib.hid (Drop_C (Q := aQ5) 2 _ [clK 3] (by simpa using hrd6) (fun c hc => by rw [List.mem_singleton.1 hc]; exact clK_ok _ _) (HD0.out.mono HLE6.out) (by decide) (que_mono_C hs6 hle6))
  rw [show dropQ RC aQ5 (goneP 2 ([clK 3].map ClmE.c)) = _ from aA6] at HDR
  clear hgv hle6 hrd6 hs6
  go_upto_region 10 with (first | (refine wpList_ld rfl _ _ rfl _ _ rfl _ HL.out ?_) | (refine wpList_build_one rfl _ _ rfl tCl i0 _ (clK 3).cells rfl Tryz.underlying49 HI.out.1 HI.out.2.1 (HI.out.2.2.1.trans rfl) (by rw [ClmE.len]; decide) (by rw [ClmE.len]; decide) ?_) | (go_at_call 41; refine HDR.out.mono ?_; rintro e7 w7 ⟨v9, rfl, hs7⟩; have HS7 := Lib.hid hs7; clear hs7 HDR HL HSA5))
  have HCL := Lib.hid (Clear_C (Q := aQ6) 1 (HD0.out.mono HLE6.out) (by decide) HS7.out)
  rw [show dropQ RC aQ6 (ofE 1) = _ from aA7] at HCL
  go_upto_region 11 with (go_at_call 37; refine HCL.out.mono ?_; rintro e8 w8 ⟨v10, rfl, hs8⟩; have HS8 := Lib.hid hs8; clear hs8 HCL HS7)
  have HN1 := Lib.hid (newInt HS8.out 1)
  have HI1 := Lib.hid (Ints_k (r := true) (HN1.out.1.own 3 rfl).rd HN1.out.2 (by decide))
  go_wp2_with (first
    | (go_at_call 17; refine HI1.out.mono ?_; rintro e9 w9 ⟨rfl, hk⟩; have HN2 := Lib.hid (newInt (HN1.out.1.kept hk) 3); have HI2 := Lib.hid (Ints_k (r := true) (HN2.out.1.own 3 rfl).rd HN2.out.2 (by decide)); clear hk HI1 HN1 HS8)
    | (go_at_call 17; refine HI2.out.mono ?_; rintro e10 w10 ⟨rfl, hk⟩; have HS10 := Lib.hid ((HN2.out.1.kept hk).drop.drop); have HBK := Lib.hid (Blockers_C (Q := aQ7) 4 (HD0.out.mono HLE6.out) (by decide) HS10.out); have HBV := Lib.hid aA8; rw [HBV.out] at HBK; clear hk HI2 HN2 HBV)
    | (go_at_call 34; refine HBK.out.mono ?_; rintro e11 w11 ⟨v11, rfl, hs11⟩; have HN3 := Lib.hid (newInt hs11 3); have HI3 := Lib.hid (Ints_k (r := true) (HN3.out.1.own 1 rfl).rd HN3.out.2 (by decide)); clear hs11 HBK HS10)
    | (go_at_call 17; refine HI3.out.mono ?_; rintro e12 w12 ⟨rfl, hk⟩; have HS12 := Lib.hid ((HN3.out.1.kept hk).drop.drop); have HLN := Lib.hid (Len_C (Q := aQ7) (by decide) HS12.out); clear hk HI3 HN3)
    | (go_at_call 28; refine HLN.out.mono ?_; rintro e13 w13 ⟨rfl, hk⟩; have HS13 := Lib.hid (HS12.out.kept hk); clear hk HLN HS12))
  go_ret
  exact ⟨rfl, HS13.out.drop.drop.drop.drop.drop.less HLE6.out⟩
end Go.Proofs.YtkdinhlmghfpeaaGreatDoor
