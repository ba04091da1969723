/- Joined texts: Ending what is held to the statement's end, by a cursor, to the end; ending to wait. Ending to wait (locks.Leave). (printed by genlkleave.py) -/
import Derived.Test.YtgljdkjepdknnaaGreatDoorMR28
/- Ending what is held to the statement's end, by a cursor, to the end; ending to wait. -/
namespace Go.Proofs.YtgljdkjepdknnaaGreatDoor
open Go.ChangeShapes Go.WideShapes Go.ChangeAt Go.RowKit
set_option maxRecDepth 100000
set_option linter.unusedSimpArgs false

theorem leaveQ_len {C : Type} {R : Rul C} (q : Qm C) (o : Int) : (leaveQ R q o).1.held.length + (leaveQ R q o).1.waits.length ≤ q.held.length + q.waits.length := by
 have h1 := moved_le (R := R) ⟨q.held, q.waits.filter (fun e => !ofE o e)⟩
 have h2 := List.length_filter_le (fun e => !ofE o e) q.waits
 unfold leaveQ
 exact Nat.le_trans h1 (by dsimp only; omega)
theorem leaveQ_given {C : Type} {R : Rul C} (q : Qm C) (o : Int) : (leaveQ R q o).2.length ≤ q.waits.length := by
 have h1 := moved_len (R := R) ⟨q.held, q.waits.filter (fun e => !ofE o e)⟩
 have h2 := List.length_filter_le (fun e => !ofE o e) q.waits
 unfold leaveQ
 dsimp only at h1 h2
 omega
theorem dropQ_given {C : Type} {R : Rul C} (q : Qm C) (g : Ent C → Bool) : (dropQ R q g).2.length ≤ q.waits.length := by
 have h1 := drop_len (R := R) q g
 omega
/-- what ending comes to: the locks behind it, and who is given something -/
def EndedL (B : World) (D : PH) (l : List HP) (L : Nat) (ts : List (List Bool)) (room : Int) (R : LkM × List Int) (e : Ending) (w' : World) : Prop := ∃ v D', e = .returned v ∧ PH.le D D' ∧ Sat B D' w' (lksC D' L ts room R.1 :: intsP v R.2 :: l)
section
variable {B w : World} {D : PH} {l : List HP} {L : Nat} {ts : List (List Bool)} {room : Int} {m : LkM}
set_option maxHeartbeats 2000000 in
theorem EndShort_L (o : Int) (hD : EnvD D) (hM : m.q.held.length + m.q.waits.length ≤ 1000) (hW : m.why.length ≤ 100000) (h : Sat B D w (lksC D L ts room m :: l)) :
  Calls Tryz.prog 16 #[.pointer (some ⟨L, 0, none⟩), .int .i64 o] w (EndedL B D l L ts room (overK m o 1)) := by
 have HOV := Lib.hid (over_W o 1 hD hM hW h)
 have HB := Lib.hid (bit_ok (w := w) 1 0)
 clear h hD
 go_enter Tryz.func16, Tryz.ntmps16
 go_wp2_with (first | (go_at_call 41; refine HB.out.mono ?_; rintro e1 w1 ⟨rfl, rfl⟩; clear HB; rw [show bitK 1 0 = 1 from rfl]) | (go_at_call 48; refine HOV.out.mono ?_; rintro e2 w2 ⟨v2, D2, rfl, hle2, hs2⟩; have HS2 := Lib.hid hs2; have HLE2 := Lib.hid hle2; clear hs2 hle2 HOV))
 go_ret
 exact ⟨_, D2, rfl, HLE2.out, HS2.out⟩
set_option maxHeartbeats 2000000 in
theorem EndHand_L (o hand : Int) (hD : EnvD D) (hM : m.q.held.length + m.q.waits.length ≤ 1000) (hW : m.why.length ≤ 100000) (h : Sat B D w (lksC D L ts room m :: l)) :
  Calls Tryz.prog 15 #[.pointer (some ⟨L, 0, none⟩), .int .i64 o, .int .i64 hand] w (EndedL B D l L ts room (overK m o (bitK 2 hand))) := by
 have HOV := Lib.hid (over_W o (bitK 2 hand) hD hM hW h)
 have HB := Lib.hid (bit_ok (w := w) 2 hand)
 clear h hD
 obtain ⟨bb, hbb⟩ : ∃ bb, bitK 2 hand = bb := ⟨_, rfl⟩
 rw [hbb] at HOV HB ⊢
 clear hbb
 go_enter Tryz.func15, Tryz.ntmps15
 go_wp2_with (first | (go_at_call 41; refine HB.out.mono ?_; rintro e1 w1 ⟨rfl, rfl⟩; clear HB) | (go_at_call 48; refine HOV.out.mono ?_; rintro e2 w2 ⟨v2, D2, rfl, hle2, hs2⟩; have HS2 := Lib.hid hs2; have HLE2 := Lib.hid hle2; clear hs2 hle2 HOV))
 go_ret
 exact ⟨_, D2, rfl, HLE2.out, HS2.out⟩
theorem endF {B : World} {D : PH} {l : List HP} : PredCl B D l 66 #[] (fun _ => true) := by
 intro x hx W X hX
 have HK1 := Lib.hid (show Kept (fun _ => False) W (W.alloc (.cells x.cells.toArray tCl)) from (Kept.refl _ _).alloc _)
 clear hX hx
 show Calls Tryz.prog 66 #[.agg x.cells.toArray] W _
 go_enter Tryz.func66, Tryz.ntmps66
 go_wp2_with fail
 go_ret
 exact ⟨rfl, HK1.out⟩
set_option maxHeartbeats 4000000 in
theorem End_L (o : Int) (hD : EnvD D) (hM : m.q.held.length + m.q.waits.length ≤ 1000) (h : Sat B D w (lksC D L ts room m :: l)) :
  Calls Tryz.prog 29 #[.pointer (some ⟨L, 0, none⟩), .int .i64 o] w (EndedL B D l L ts room (endK m o)) := by
 obtain ⟨i0, hi, hz0, hz1, hz2⟩ := info_parts infoInt
 have HI := Lib.hid (And.intro hi (And.intro hz0 (And.intro hz1 hz2)))
 obtain ⟨q, tv, rv, rs, ht, hr, h1⟩ := lksOpen h
 have HT := Lib.hid ht
 have HR := Lib.hid hr
 have HD := Lib.hid hD
 obtain ⟨c0, c1, c2, c3, _⟩ := cells4 (h1.blk 0 rfl)
 have HLV := Lib.hid (Leave_C o hD hM h1.swap)
 have hlen1 := leaveQ_len (R := RC) m.q o
 have hleng := leaveQ_given (R := RC) m.q o
 clear h ht hr h1 hD hi hz0 hz1 hz2
 go_enter Tryz.func29, Tryz.ntmps29
 go_upto_region 4 with (go_at_call 65; refine HLV.out.mono ?_; rintro e1 w1 ⟨v1, rfl, hs1⟩; have HS1 := Lib.hid hs1; clear hs1 HLV c0 c1 c2 c3)
 have hs2 : Sat B D w1 (lksC D L ts room ⟨(leaveQ RC m.q o).1, m.why⟩ :: intsP v1 (leaveQ RC m.q o).2 :: l) := lksShut (m := ⟨(leaveQ RC m.q o).1, m.why⟩) HT.out HR.out (((HS1.out.front 1 rfl).front 3 rfl).front 2 rfl |>.front 3 rfl)
 have HFG := Lib.hid (forget_W o (fun _ => true) (enters_of Tryz.func66 (by kernel_rfl) rfl) (endF (B := B) (D := D) (l := intsP v1 (leaveQ RC m.q o).2 :: l)) hs2)
 clear hs2 HS1 HT HR
 go_upto_region 5 with (go_at_call 52; refine HFG.out.mono ?_; rintro e3 w3 ⟨rfl, hs3⟩; have HS3 := Lib.hid hs3; clear hs3 HFG)
 obtain ⟨q4, tv4, rv4, rs4, ht4, hr4, h4⟩ := lksOpen HS3.out
 have HT4 := Lib.hid ht4
 have HR4 := Lib.hid hr4
 obtain ⟨c0, c1, c2, c3, _⟩ := cells4 (h4.blk 0 rfl)
 have HCL := Lib.hid (Clear_C o HD.out (Nat.le_trans hlen1 hM) h4.swap)
 have hlen2 := dropQ_given (R := RC) (leaveQ RC m.q o).1 (ofE o)
 obtain ⟨Q1, hQ1⟩ : ∃ Q1, Q1 = leaveQ RC m.q o := ⟨_, rfl⟩
 have HQ1 := Lib.hid hQ1
 rw [← hQ1] at HCL HS3 hlen2 hlen1 hleng
 clear ht4 hr4 h4 HS3 hQ1
 go_wp2_with (first
  | (go_at_call 67; refine HCL.out.mono ?_; rintro e5 w5 ⟨v5, rfl, hs5⟩; obtain ⟨va, vc, rfl⟩ := (hs5.front 1 rfl).own_shape; have HS5 := Lib.hid (show Sat B D w5 (ownS 3 1 v1 Q1.2.length (Q1.2.map (Value.int .i64)) :: ownS 3 1 (.slice va (dropQ RC Q1.1 (ofE o)).2.length vc) (dropQ RC Q1.1 (ofE o)).2.length ((dropQ RC Q1.1 (ofE o)).2.map (Value.int .i64)) :: queC D q4 (dropQ RC Q1.1 (ofE o)).1 :: lkb L q4 tv4 room rv4 :: rsnsW rv4 rs4 :: l) from (hs5.front 1 rfl).front 4 rfl); have HRD := Lib.hid (HS5.out.own 1 rfl).rd; clear hs5 HCL c0 c1 c2 c3)
  | (at_builtin; refine wpList_append_Sat _ rfl _ _ 42 rfl 3 i0 _ 1 8 Tryz.underlying42 HI.out.1 HI.out.2.1 HI.out.2.2.1 HI.out.2.2.2 rfl _ Q1.2.length _ rfl HS5.out _ (dropQ RC Q1.1 (ofE o)).2.length _ rfl HRD.out (by intro u hu; obtain ⟨x, _, rfl⟩ := List.mem_map.1 hu; rfl) (by unfold maxLen; omega) (by omega) ?_; intro v6 w6 hs6 h6; have HS6 := Lib.hid hs6; clear hs6 h6 HS5 HRD))
 go_ret
 refine ⟨_, D, rfl, PH.le.refl _, ?_⟩
 have h7 : Sat B D w6 (lkb L q4 tv4 room rv4 :: queC D q4 (dropQ RC Q1.1 (ofE o)).1 :: rsnsW rv4 rs4 :: ownS 3 1 v6 (Q1.2.length + (dropQ RC Q1.1 (ofE o)).2.length) (Q1.2.map (Value.int .i64) ++ (dropQ RC Q1.1 (ofE o)).2.map (Value.int .i64)) :: l) := (((HS6.out.front 1 rfl).drop.front 3 rfl).front 2 rfl |>.front 3 rfl)
 rw [← List.map_append, ← List.length_append] at h7
 have h8 := lksShut (m := ⟨(dropQ RC Q1.1 (ofE o)).1, forgetR m.why o (fun _ => true)⟩) HT4.out HR4.out h7
 have HE := show endK m o = (⟨(dropQ RC Q1.1 (ofE o)).1, forgetR m.why o (fun _ => true)⟩, Q1.2 ++ (dropQ RC Q1.1 (ofE o)).2) by unfold endK; rw [← HQ1.out]
 rw [HE]
 exact h8
end
end Go.Proofs.YtgljdkjepdknnaaGreatDoor

/- Ending to wait (locks.Leave). (printed by genlkleave.py) -/
namespace Go.Proofs.YtgljdkjepdknnaaGreatDoor
open Go.ChangeShapes Go.WideShapes Go.ChangeAt Go.RowKit
set_option maxRecDepth 100000
set_option linter.unusedSimpArgs false

set_option maxHeartbeats 2000000 in
theorem leaveF {B : World} {D : PH} {l : List HP} {b : Nat} {z : ClmE} (hz : ClOk D z) (i : Nat) (hi : l[i]? = some (blk b z.cells.toArray tCl)) :
  PredCl B D l 73 #[.pointer (some ⟨b, 0, none⟩)] (fun c => RC.same c z.c) := by
 intro x hx W X hX
 have h2 := hX.blk (X.length + i) (by rw [List.getElem?_append_right (by omega), Nat.add_sub_cancel_left, hi])
 obtain ⟨W1, hW1, hk1, hbx, hb1⟩ := two_blocks h2 x.cells.toArray tCl
 have HW1 := Lib.hid hW1
 have HK1 := Lib.hid hk1
 have HL1 := Lib.hid (loadCl (blk_range hbx))
 have HL2 := Lib.hid (loadCl (blk_range hb1))
 have HSS := Lib.hid (same_C ((hx.rd hX).kept hk1) ((hz.rd hX).kept hk1))
 clear h2 hX hW1 hk1 hbx hb1
 show Calls Tryz.prog 73 #[.agg x.cells.toArray, .pointer (some ⟨b, 0, none⟩)] W _
 show Calls _ _ _ W fun e W' => e = .returned (.bool (RC.same x.c z.c)) ∧ _
 generalize RC.same x.c z.c = rr at *
 go_enter Tryz.func73, Tryz.ntmps73
 go_upto_region 1 with fail
 rw [← HW1.out]
 clear HW1
 generalize W.heap.size = bx at HL1 ⊢
 go_wp2_with (first | (refine wpList_ld rfl _ _ rfl _ _ rfl _ HL1.out ?_) | (refine wpList_ld rfl _ _ rfl _ _ rfl _ HL2.out ?_) | (go_at_call 74; refine HSS.out.mono ?_; rintro e1 w1 ⟨rfl, hk3⟩; have HK2 := Lib.hid (HK1.out.trans hk3 (fun _ h => h.elim)); clear hk3 HSS HL1 HL2))
 go_ret
 exact ⟨rfl, HK2.out⟩
set_option maxHeartbeats 8000000 in
theorem Leave_L {B w : World} {D : PH} {l : List HP} {L : Nat} {ts : List (List Bool)} {room : Int} {m : LkM} (o : Int) (hD : EnvD D) (hM : m.q.held.length + m.q.waits.length ≤ 1000) (h : Sat B D w (lksC D L ts room m :: l)) :
  Calls Tryz.prog 37 #[.pointer (some ⟨L, 0, none⟩), .int .i64 o] w (EndedL B D l L ts room (leaveK m o)) := by
 obtain ⟨q, tv, rv, rs, ht, hr, h1⟩ := lksOpen h
 have HT := Lib.hid ht
 have HR := Lib.hid hr
 obtain ⟨c0, c1, c2, c3, _⟩ := cells4 (h1.blk 0 rfl)
 have HWT := Lib.hid (Waits_C o h1.swap)
 have HD := Lib.hid hD
 have HM := Lib.hid hM
 clear h ht hr h1 hD hM
 go_enter Tryz.func37, Tryz.ntmps37
 go_upto_region 4 with (first | (go_at_call 42; refine HWT.out.mono ?_; rintro e3 w3 ⟨z, rfl, hzc, hzok, hs3⟩; have HZC := Lib.hid hzc; have HZO := Lib.hid hzok; have HS3 := Lib.hid (hs3.alloc z.cells.toArray tCl); clear hzc hzok hs3 HWT c0 c1 c2 c3) | (refine wpList_store_new rfl _ _ _ rfl z.cells _ _ rfl rfl (by kernel_rfl) rfl (ClmE.one z) ?_))
 obtain ⟨W4, hW4, hs4⟩ := Sat.hide HS3.out
 rw [← hW4]
 clear hW4 HS3
 generalize w3.heap.size = bz at hs4 ⊢
 have HS4 := Lib.hid (lksShut HT.out HR.out (((hs4.front 3 rfl).front 2 rfl).front 3 rfl))
 clear hs4
 obtain ⟨wb, hwb⟩ : ∃ wb, (waitsQ m.q o).2 = wb := ⟨_, rfl⟩
 rw [hwb]
 have HLD := Lib.hid (show ∀ y : List Rsn, y = (if wb && !hasK m o z.c then forgetR m.why o (fun d => RC.same d z.c) else m.why) → leaveK m o = (⟨(leaveQ RC m.q o).1, y⟩, (leaveQ RC m.q o).2) from fun y hy => by rw [hy, HZC.out]; unfold leaveK; rw [hwb])
 clear hwb
 cases wb
 ·have HY := Lib.hid (HLD.out m.why rfl)
  have HS5 := Lib.hid (show Sat B D W4 (lksC D L ts room ⟨m.q, m.why⟩ :: blk bz z.cells.toArray tCl :: l) from HS4.out)
  go_upto_region 6 with fail
  obtain ⟨q6, tv6, rv6, rs6, ht6, hr6, h6⟩ := lksOpen HS5.out
  have HT6 := Lib.hid ht6
  have HR6 := Lib.hid hr6
  obtain ⟨c0, c1, c2, c3, _⟩ := cells4 (h6.blk 0 rfl)
  have HLV := Lib.hid (Leave_C o HD.out HM.out h6.swap)
  clear ht6 hr6 h6 HS5
  go_wp2_with (go_at_call 65; refine HLV.out.mono ?_; rintro e7 w7 ⟨v7, rfl, hs7⟩; have HS7 := Lib.hid hs7; clear hs7 HLV c0 c1 c2 c3)
  go_ret
  rw [HY.out]
  have h9 := lksShut (m := ⟨(leaveQ RC m.q o).1, m.why⟩) HT6.out HR6.out (((HS7.out.front 3 rfl).front 1 rfl).front 3 rfl)
  exact ⟨_, D, rfl, PH.le.refl _, h9.rm2⟩
 have HHAS := Lib.hid (has_W o z (by have := HM.out; omega) HZO.out HS4.out)
 have HL := Lib.hid (loadCl (blk_range (HS4.out.blk 1 rfl)))
 cases hh : hasK m o z.c
 rotate_left
 ·have HY := Lib.hid (HLD.out m.why (by rw [hh]; rfl))
  rw [hh] at HHAS
  clear hh
  go_upto_region 6 with (first | (refine wpList_ldw rfl _ _ rfl _ _ rfl _ HL.out ?_) | (go_at_call 43; refine HHAS.out.mono ?_; rintro e5 w5 ⟨rfl, hs5⟩; have HS5 := Lib.hid (show Sat B D w5 (lksC D L ts room ⟨m.q, m.why⟩ :: blk bz z.cells.toArray tCl :: l) from hs5); clear hs5 HHAS HL HS4))
  obtain ⟨q6, tv6, rv6, rs6, ht6, hr6, h6⟩ := lksOpen HS5.out
  have HT6 := Lib.hid ht6
  have HR6 := Lib.hid hr6
  obtain ⟨c0, c1, c2, c3, _⟩ := cells4 (h6.blk 0 rfl)
  have HLV := Lib.hid (Leave_C o HD.out HM.out h6.swap)
  clear ht6 hr6 h6 HS5
  go_wp2_with (go_at_call 65; refine HLV.out.mono ?_; rintro e7 w7 ⟨v7, rfl, hs7⟩; have HS7 := Lib.hid hs7; clear hs7 HLV c0 c1 c2 c3)
  go_ret
  rw [HY.out]
  have h9 := lksShut (m := ⟨(leaveQ RC m.q o).1, m.why⟩) HT6.out HR6.out (((HS7.out.front 3 rfl).front 1 rfl).front 3 rfl)
  exact ⟨_, D, rfl, PH.le.refl _, h9.rm2⟩
 ·have HY := Lib.hid (HLD.out (forgetR m.why o (fun d => RC.same d z.c)) (by rw [hh]; rfl))
  rw [hh] at HHAS
  clear hh
  go_upto_region 5 with (first | (refine wpList_ldw rfl _ _ rfl _ _ rfl _ HL.out ?_) | (go_at_call 43; refine HHAS.out.mono ?_; rintro e5 w5 ⟨rfl, hs5⟩; have HFG := Lib.hid (forget_W o (fun d => RC.same d z.c) (enters_of Tryz.func73 (by kernel_rfl) rfl) (leaveF (B := B) HZO.out (b := bz) (l := blk bz z.cells.toArray tCl :: l) 0 rfl) hs5); clear hs5 HHAS HL HS4))
  go_upto_region 6 with (go_at_call 52; refine HFG.out.mono ?_; rintro e6 w6 ⟨rfl, hs6⟩; have HS5 := Lib.hid hs6; clear hs6 HFG)
  obtain ⟨q6, tv6, rv6, rs6, ht6, hr6, h6⟩ := lksOpen HS5.out
  have HT6 := Lib.hid ht6
  have HR6 := Lib.hid hr6
  obtain ⟨c0, c1, c2, c3, _⟩ := cells4 (h6.blk 0 rfl)
  have HLV := Lib.hid (Leave_C o HD.out HM.out h6.swap)
  clear ht6 hr6 h6 HS5
  go_wp2_with (go_at_call 65; refine HLV.out.mono ?_; rintro e7 w7 ⟨v7, rfl, hs7⟩; have HS7 := Lib.hid hs7; clear hs7 HLV c0 c1 c2 c3)
  go_ret
  rw [HY.out]
  have h9 := lksShut (m := ⟨(leaveQ RC m.q o).1, forgetR m.why o (fun d => RC.same d z.c)⟩) HT6.out HR6.out (((HS7.out.front 3 rfl).front 1 rfl).front 3 rfl)
  exact ⟨_, D, rfl, PH.le.refl _, h9.rm2⟩
end Go.Proofs.YtgljdkjepdknnaaGreatDoor
