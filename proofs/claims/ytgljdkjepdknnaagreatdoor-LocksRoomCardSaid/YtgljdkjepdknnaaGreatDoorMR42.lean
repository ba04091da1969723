/- Joined texts: The document's locks: ending what is held to the statement's end, by a cursor; ending to wait; the end (ratlineref11). (printed by genrk4.py) The document's locks: ending to wait; the end (ratlineref11.Locks.Leave, End). (printed by genrk5.py) -/
import Derived.Test.YtgljdkjepdknnaaGreatDoorMR41
import Derived.Test.YtgljdkjepdknnaaGreatDoorMR39
import Derived.Test.YtgljdkjepdknnaaGreatDoorMR34
/- The document's locks: ending what is held to the statement's end, by a cursor; ending to wait; the end (ratlineref11). (printed by genrk4.py) -/
namespace Go.Proofs.YtgljdkjepdknnaaGreatDoor
open Go.ChangeShapes Go.WideShapes Go.ChangeAt Go.RowKit
set_option maxRecDepth 100000
set_option linter.unusedSimpArgs false

/-- a value of locks in its words -/
theorem doc5 {D : PH} {v : Value} {d : DocM} (h : DocD D v d) : ∃ y0 y1 y2 y3 y4, v = .agg #[y0, y1, y2, y3, y4] ∧ ∀ u ∈ [y0, y1, y2, y3, y4], u.oneCell' = true := by
  obtain ⟨tv, hv, wv, rv, es, rfl, ⟨_, _, _, ht, _⟩, ⟨hv', wv', _, _, hq, hh, hw, _, _⟩, hr, _⟩ := h
  obtain ⟨rfl, rfl⟩ : hv = hv' ∧ wv = wv' := by simpa using hq
  refine ⟨_, _, _, _, _, rfl, fun u hu => ?_⟩
  simp at hu
  rcases hu with rfl | rfl | rfl | rfl | rfl
  · exact ht.oneV
  · rfl
  · exact hh.1.oneV
  · exact hw.1.oneV
  · exact hr.1.oneV
set_option maxHeartbeats 4000000 in
theorem rEndShort_ok {B w : World} {D : PH} {l : List HP} {v : Value} {d : DocM} (o : Int) (hd : DocD D v d) (hM : d.r.length ≤ 1000) (hQ : d.q.held.length + d.q.waits.length ≤ 1000) (s : Sat B D w l) :
    Calls Tryz.prog 57 #[v, .int .i64 o] w (DocEnd B D l (overD d o 1 0).1 (overD d o 1 0).2) := by
  obtain ⟨y0, y1, y2, y3, y4, rfl, _⟩ := doc5 hd
  obtain ⟨W1, hW1, hs1⟩ := two_new s #[y0, y1, y2, y3, y4] zLkV tLkV tLkV
  have HW1 := Lib.hid hW1
  have HS1 := Lib.hid hs1
  have HLV := Lib.hid (loadLkV (hs1.blk 0 rfl))
  have HOV := Lib.hid (rOver_ok o 1 0 hd hM hQ hs1)
  clear s hs1 hW1 hd
  go_enter Tryz.func57, Tryz.ntmps57
  go_upto_region 1 with fail
  rw [← HW1.out]
  clear HW1
  generalize w.heap.size + 1 = b2 at *
  generalize w.heap.size = b1 at *
  go_wp2_with (first | (refine wpList_ld rfl _ _ rfl _ _ rfl [_, _, _, _, _] HLV.out ?_) | (go_at_call 97; refine HOV.out.mono ?_; rintro e2 w2 ⟨v2, iv, D2, rfl, hle, hd2, hs2⟩; obtain ⟨z0, z1, z2, z3, z4, rfl, h1⟩ := doc5 hd2; have HLE := Lib.hid hle; have HD2 := Lib.hid hd2; have H1 := Lib.hid h1; have HS2 := Lib.hid (hs2.front 2 rfl); clear hle hd2 h1 hs2 HOV HLV HS1) | (refine wpList_store_whole rfl _ _ _ rfl tLkV b2 rfl [z0, z1, z2, z3, z4] rfl zLkV HS2.out (by kernel_rfl) rfl H1.out ?_; intro w3 hs3; have HS3 := Lib.hid hs3; clear hs3 HS2))
  refine bodyPost_ret (results_c2 rfl _ _ rfl (loadLkV (HS3.out.blk 0 rfl))) rfl ?_
  exact ⟨_, _, D2, rfl, HLE.out, HD2.out, (HS3.out.drop.swap.drop)⟩
set_option maxHeartbeats 4000000 in
theorem rEndHand_ok {B w : World} {D : PH} {l : List HP} {v : Value} {d : DocM} (o hand : Int) (h1 : ¬ hand < 1) (h2 : ¬ 2 < hand) (hd : DocD D v d) (hM : d.r.length ≤ 1000) (hQ : d.q.held.length + d.q.waits.length ≤ 1000) (s : Sat B D w l) :
    Calls Tryz.prog 58 #[v, .int .i64 o, .int .i64 hand] w (DocEnd B D l (overD d o 2 hand).1 (overD d o 2 hand).2) := by
  obtain ⟨y0, y1, y2, y3, y4, rfl, _⟩ := doc5 hd
  obtain ⟨W1, hW1, hs1⟩ := two_new s #[y0, y1, y2, y3, y4] zLkV tLkV tLkV
  have HW1 := Lib.hid hW1
  have HS1 := Lib.hid hs1
  have HLV := Lib.hid (loadLkV (hs1.blk 0 rfl))
  have HOV := Lib.hid (rOver_ok o 2 hand hd hM hQ hs1)
  clear s hs1 hW1 hd
  go_enter Tryz.func58, Tryz.ntmps58
  go_upto_region 1 with fail
  rw [← HW1.out]
  clear HW1
  generalize w.heap.size + 1 = b2 at *
  generalize w.heap.size = b1 at *
  go_wp2_with (first | (refine wpList_ld rfl _ _ rfl _ _ rfl [_, _, _, _, _] HLV.out ?_) | (go_at_call 97; refine HOV.out.mono ?_; rintro e2 w2 ⟨v2, iv, D2, rfl, hle, hd2, hs2⟩; obtain ⟨z0, z1, z2, z3, z4, rfl, h1⟩ := doc5 hd2; have HLE := Lib.hid hle; have HD2 := Lib.hid hd2; have H1 := Lib.hid h1; have HS2 := Lib.hid (hs2.front 2 rfl); clear hle hd2 h1 hs2 HOV HLV HS1) | (refine wpList_store_whole rfl _ _ _ rfl tLkV b2 rfl [z0, z1, z2, z3, z4] rfl zLkV HS2.out (by kernel_rfl) rfl H1.out ?_; intro w3 hs3; have HS3 := Lib.hid hs3; clear hs3 HS2))
  refine bodyPost_ret (results_c2 rfl _ _ rfl (loadLkV (HS3.out.blk 0 rfl))) rfl ?_
  exact ⟨_, _, D2, rfl, HLE.out, HD2.out, (HS3.out.drop.swap.drop)⟩
set_option maxHeartbeats 4000000 in
theorem rEndHand_no {B w : World} {D : PH} {l : List HP} {v : Value} {d : DocM} (o hand : Int) (h1 : hand < 1 ∨ 2 < hand) (hd : DocD D v d) (hM : d.r.length ≤ 1000) (hQ : d.q.held.length + d.q.waits.length ≤ 1000) (s : Sat B D w l) :
    Calls Tryz.prog 58 #[v, .int .i64 o, .int .i64 hand] w (DocEnd B D l (overD d o 0 0).1 (overD d o 0 0).2) := by
  obtain ⟨y0, y1, y2, y3, y4, rfl, _⟩ := doc5 hd
  obtain ⟨W1, hW1, hs1⟩ := two_new s #[y0, y1, y2, y3, y4] zLkV tLkV tLkV
  have HW1 := Lib.hid hW1
  have HS1 := Lib.hid hs1
  have HLV := Lib.hid (loadLkV (hs1.blk 0 rfl))
  have HOV := Lib.hid (rOver_ok o 0 0 hd hM hQ hs1)
  clear s hs1 hW1 hd
  go_enter Tryz.func58, Tryz.ntmps58
  go_upto_region 1 with fail
  rw [← HW1.out]
  clear HW1
  generalize w.heap.size + 1 = b2 at *
  generalize w.heap.size = b1 at *
  have h3 : hand < 1 ∨ (¬ hand < 1 ∧ hand > 2) := by omega
  clear h1
  rcases h3 with h1 | ⟨h1, h2⟩
  all_goals
   go_wp2_with (first | (refine wpList_ld rfl _ _ rfl _ _ rfl [_, _, _, _, _] HLV.out ?_) | (go_at_call 97; refine HOV.out.mono ?_; rintro e2 w2 ⟨v2, iv, D2, rfl, hle, hd2, hs2⟩; obtain ⟨z0, z1, z2, z3, z4, rfl, h1⟩ := doc5 hd2; have HLE := Lib.hid hle; have HD2 := Lib.hid hd2; have H1 := Lib.hid h1; have HS2 := Lib.hid (hs2.front 2 rfl); clear hle hd2 h1 hs2 HOV HLV HS1) | (refine wpList_store_whole rfl _ _ _ rfl tLkV b2 rfl [z0, z1, z2, z3, z4] rfl zLkV HS2.out (by kernel_rfl) rfl H1.out ?_; intro w3 hs3; have HS3 := Lib.hid hs3; clear hs3 HS2))
   refine bodyPost_ret (results_c2 rfl _ _ rfl (loadLkV (HS3.out.blk 0 rfl))) rfl ?_
   exact ⟨_, _, D2, rfl, HLE.out, HD2.out, (HS3.out.drop.swap.drop)⟩
end Go.Proofs.YtgljdkjepdknnaaGreatDoor

/- The document's locks: ending to wait; the end (ratlineref11.Locks.Leave, End). (printed by genrk5.py) -/
namespace Go.Proofs.YtgljdkjepdknnaaGreatDoor
open Go.ChangeShapes Go.WideShapes Go.ChangeAt Go.RowKit
set_option maxRecDepth 100000
set_option linter.unusedSimpArgs false

/-- the words of locks that are a value -/
structure DocW (D : PH) (y0 y1 y2 y3 y4 : Value) (d : DocM) : Prop where
  t : TblsAt D y0 d.ts
  m : y1 = .int .i64 d.room
  q : QueD D (.agg #[y2, y3]) d.q
  r : ∃ es, ReasD D y4 es ∧ es.map reaE = d.r
theorem docW {D : PH} {y0 y1 y2 y3 y4 : Value} {d : DocM} (h : DocD D (.agg #[y0, y1, y2, y3, y4]) d) : DocW D y0 y1 y2 y3 y4 d := by
  obtain ⟨tv, hv, wv, rv, es, he, ht, hq, hr, hrr⟩ := h
  simp only [Value.agg.injEq, Array.mk.injEq, List.cons.injEq, and_true] at he
  obtain ⟨rfl, h1, rfl, rfl, rfl⟩ := he
  exact ⟨ht, h1, hq, es, hr, hrr⟩
theorem DocW.d {D : PH} {y0 y1 y2 y3 y4 : Value} {d : DocM} (h : DocW D y0 y1 y2 y3 y4 d) : DocD D (.agg #[y0, y1, y2, y3, y4]) d := by
  obtain ⟨ht, rfl, hq, es, hr, hrr⟩ := h
  exact ⟨_, _, _, _, es, rfl, ht, hq, hr, hrr⟩
theorem DocW.mono {D D' : PH} {y0 y1 y2 y3 y4 : Value} {d : DocM} (h : DocW D y0 y1 y2 y3 y4 d) (le : PH.le D D') : DocW D' y0 y1 y2 y3 y4 d := by
  obtain ⟨ht, h1, hq, es, hr, hrr⟩ := h
  exact ⟨ht.mono le, h1, hq.mono le, es, hr.mono le, hrr⟩
theorem DocW.ones {D : PH} {y0 y1 y2 y3 y4 : Value} {d : DocM} (h : DocW D y0 y1 y2 y3 y4 d) : y0.oneCell' = true ∧ y1.oneCell' = true ∧ y4.oneCell' = true := by
  obtain ⟨⟨_, _, _, ht, _⟩, rfl, _, es, hr, _⟩ := h
  exact ⟨ht.oneV, rfl, hr.1.oneV⟩
theorem que2 {D : PH} {v : Value} {Q : Qm Clm} (h : QueD D v Q) : ∃ y z, v = .agg #[y, z] ∧ y.oneCell' = true ∧ z.oneCell' = true := by
  obtain ⟨hv, wv, _, _, rfl, hh, hw, _, _⟩ := h
  exact ⟨hv, wv, rfl, hh.1.oneV, hw.1.oneV⟩
noncomputable def leaveD (d : DocM) (o : Int) : DocM × List Int :=
  (⟨d.ts, d.room, (leaveQ RC d.q o).1, if (waitsQ d.q o).2 && !(holdsQ d.q o).any (fun h => RC.same h (waitsQ d.q o).1) then withoutE d.r o (waitsQ d.q o).1 else d.r⟩, (leaveQ RC d.q o).2)
noncomputable def endD (d : DocM) (o : Int) : DocM × List Int :=
  (⟨d.ts, d.room, (dropQ RC (leaveQ RC d.q o).1 (ofE o)).1, endE d.r o⟩, (leaveQ RC d.q o).2 ++ (dropQ RC (leaveQ RC d.q o).1 (ofE o)).2)
set_option maxHeartbeats 16000000 in
theorem rkLeave_ok {B w : World} {D : PH} {l : List HP} {v : Value} {d : DocM} (o : Int) (hd : DocD D v d) (hM : d.r.length ≤ 1000) (hQ : d.q.held.length + d.q.waits.length ≤ 1000) (s : Sat B D w l) :
    Calls Tryz.prog 60 #[v, .int .i64 o] w (DocEnd B D l (leaveD d o).1 (leaveD d o).2) := by
  obtain ⟨y0, y1, y2, y3, y4, rfl, _⟩ := doc5 hd
  have hdw := docW hd
  obtain ⟨W1, hW1, hs1⟩ := two_new s #[y0, y1, y2, y3, y4] zLkV tLkV tLkV
  have HW1 := Lib.hid hW1
  have HS1 := Lib.hid hs1
  have HWT := Lib.hid (rqWaiting_ok o hdw.q hs1)
  obtain ⟨q0, q1, q2, q3, q4, qf⟩ := cells5v (hs1.blk 0 rfl)
  have HD := Lib.hid hd
  clear s hs1 hW1 hd hdw
  go_enter Tryz.func60, Tryz.ntmps60
  go_upto_region 1 with fail
  rw [← HW1.out]
  clear HW1
  generalize w.heap.size + 1 = b2 at *
  generalize w.heap.size = b1 at *
  go_upto_region 2 with (first | (go_at_call 32; refine HWT.out.mono ?_; rintro e1 w1 ⟨z, rfl, hzc, hzo, _, hs2⟩; have HZC := Lib.hid hzc; have HZO := Lib.hid hzo; have HS2 := Lib.hid (hs2.alloc z.cells.toArray tCl); clear hzc hzo hs2 HWT HS1 q0 q1 q2 q3 q4 qf) | (refine wpList_store_new rfl _ _ _ rfl z.cells _ _ rfl rfl (by kernel_rfl) rfl (ClmE.one z) ?_))
  obtain ⟨W3, hW3, hs3⟩ := Sat.hide HS2.out
  rw [← hW3]
  clear hW3 HS2
  generalize w1.heap.size = bz at hs3 ⊢
  have HLV := Lib.hid (loadLkV (hs3.blk 1 rfl))
  have HLZ := Lib.hid (loadCl (blk_range (hs3.blk 0 rfl)))
  have HHA := Lib.hid (rHas_ok o z HD.out HZO.out (by omega) hs3)
  rw [HZC.out] at HHA
  clear hs3
  go_upto_region 3 with (first | (refine wpList_ld rfl _ _ rfl _ _ rfl [_, _, _, _, _] HLV.out ?_) | (refine wpList_ld rfl _ _ rfl _ _ rfl _ HLZ.out ?_) | (go_at_call 100; refine HHA.out.mono ?_; rintro e4 w4 ⟨rfl, hs4⟩; have HS4 := Lib.hid hs4; clear hs4 HHA HLV HLZ))
  obtain ⟨wb, hwb⟩ : ∃ wb, wb = (waitsQ d.q o).2 := ⟨_, rfl⟩
  obtain ⟨hb, hhb⟩ : ∃ hb, hb = (holdsQ d.q o).any (fun h => RC.same h (waitsQ d.q o).1) := ⟨_, rfl⟩
  rw [← hwb, ← hhb]
  obtain ⟨d2, hd2⟩ : ∃ d2 : DocM, d2 = ⟨d.ts, d.room, d.q, if wb && !hb then withoutE d.r o (waitsQ d.q o).1 else d.r⟩ := ⟨_, rfl⟩
  have HD2 := Lib.hid hd2
  have HLD := Lib.hid (show leaveD d o = (⟨d2.ts, d2.room, (leaveQ RC d2.q o).1, d2.r⟩, (leaveQ RC d2.q o).2) by unfold leaveD; rw [hd2, ← hwb, ← hhb])
  clear hwb hhb hd2
  cases wb <;> cases hb
  · have HD5 := Lib.hid (show DocD D (.agg #[y0, y1, y2, y3, y4]) d2 by rw [HD2.out]; exact HD.out)
    have HLE5 := Lib.hid (PH.le.refl D)
    have HS6 := Lib.hid (show Sat B D w4 (blk b2 zLkV tLkV :: blk b1 #[y0, y1, y2, y3, y4] tLkV :: blk bz z.cells.toArray tCl :: l) from (HS4.out.front 1 rfl).front 2 rfl)
    clear HS4
    go_upto_region 5 with fail
    have HW5 := Lib.hid (docW HD5.out)
    obtain ⟨q0, q1, q2, q3, q4, qf⟩ := cells5v (HS6.out.blk 1 rfl)
    have hQ2 : d2.q.held.length + d2.q.waits.length ≤ 1000 := by rw [HD2.out]; exact hQ
    have HLV5 := Lib.hid (rqLeave_ok o HW5.out.q hQ2 HS6.out)
    go_upto_region 6 with (first | (go_at_call 98; refine HLV5.out.mono ?_; rintro e7 w7 ⟨v7, iv, D7, rfl, hle7, hq7, hs7⟩; obtain ⟨hv7, wv7, rfl, o7, p7⟩ := que2 hq7; have HLE7 := Lib.hid hle7; have HQ7 := Lib.hid hq7; have HO7 := Lib.hid (And.intro o7 p7); have HS7 := Lib.hid (hs7.alloc #[hv7, wv7] tRq); clear hle7 hq7 o7 p7 hs7 HLV5 q0 q1 q2 q3 q4 qf) | (refine wpList_store_new rfl _ _ _ rfl [hv7, wv7] _ _ rfl rfl (by kernel_rfl) rfl (by intro u hu; simp at hu; rcases hu with rfl | rfl; exact HO7.out.1; exact HO7.out.2) ?_))
    obtain ⟨W8, hW8, hs8⟩ := Sat.hide HS7.out
    rw [← hW8]
    clear hW8 HS7 HS6
    generalize w7.heap.size = bq at hs8 ⊢
    have HLQ := Lib.hid (loadQ2 (blk_range (cs := [hv7, wv7]) (hs8.blk 0 rfl)))
    have HS8 := Lib.hid (hs8.front 3 rfl)
    clear hs8
    go_upto_region 7 with (first | (refine wpList_ld rfl _ _ rfl _ _ rfl [_, _] HLQ.out ?_) | (refine wpList_store_at rfl _ _ _ rfl tLkV b1 2 rfl [hv7, wv7] rfl [y0, y1, y2, y3, y4] HS8.out (by kernel_rfl) (by simp) (by intro u hu; simp at hu; rcases hu with rfl | rfl; exact HO7.out.1; exact HO7.out.2) ?_; intro w9 hs9; have HS9 := Lib.hid (show Sat B D7 w9 (blk b1 #[y0, y1, hv7, wv7, y4] tLkV :: _) from hs9); clear hs9 HS8))
    have HLV9 := Lib.hid (loadLkV (HS9.out.blk 0 rfl))
    have HS10 := Lib.hid (HS9.out.front 3 rfl)
    clear HS9
    go_wp2_with (first | (refine wpList_ld rfl _ _ rfl _ _ rfl [_, _, _, _, _] HLV9.out ?_) | (refine wpList_store_whole rfl _ _ _ rfl tLkV b2 rfl [y0, y1, hv7, wv7, y4] rfl zLkV HS10.out (by kernel_rfl) rfl (by intro u hu; simp at hu; rcases hu with rfl | rfl | rfl | rfl | rfl; exact HW5.out.ones.1; exact HW5.out.ones.2.1; exact HO7.out.1; exact HO7.out.2; exact HW5.out.ones.2.2) ?_; intro w11 hs11; have HS11 := Lib.hid hs11; clear hs11 HS10))
    refine bodyPost_ret (results_c2 rfl _ _ rfl (loadLkV (HS11.out.blk 0 rfl))) rfl ?_
    rw [HLD.out]
    have hw7 := HW5.out.mono HLE7.out
    refine ⟨_, _, D7, rfl, HLE5.out.trans HLE7.out, DocW.d ⟨hw7.t, hw7.m, HQ7.out, hw7.r⟩, ?_⟩
    exact HS11.out.drop.drop.drop.swap.drop
  · have HD5 := Lib.hid (show DocD D (.agg #[y0, y1, y2, y3, y4]) d2 by rw [HD2.out]; exact HD.out)
    have HLE5 := Lib.hid (PH.le.refl D)
    have HS6 := Lib.hid (show Sat B D w4 (blk b2 zLkV tLkV :: blk b1 #[y0, y1, y2, y3, y4] tLkV :: blk bz z.cells.toArray tCl :: l) from (HS4.out.front 1 rfl).front 2 rfl)
    clear HS4
    go_upto_region 5 with fail
    have HW5 := Lib.hid (docW HD5.out)
    obtain ⟨q0, q1, q2, q3, q4, qf⟩ := cells5v (HS6.out.blk 1 rfl)
    have hQ2 : d2.q.held.length + d2.q.waits.length ≤ 1000 := by rw [HD2.out]; exact hQ
    have HLV5 := Lib.hid (rqLeave_ok o HW5.out.q hQ2 HS6.out)
    go_upto_region 6 with (first | (go_at_call 98; refine HLV5.out.mono ?_; rintro e7 w7 ⟨v7, iv, D7, rfl, hle7, hq7, hs7⟩; obtain ⟨hv7, wv7, rfl, o7, p7⟩ := que2 hq7; have HLE7 := Lib.hid hle7; have HQ7 := Lib.hid hq7; have HO7 := Lib.hid (And.intro o7 p7); have HS7 := Lib.hid (hs7.alloc #[hv7, wv7] tRq); clear hle7 hq7 o7 p7 hs7 HLV5 q0 q1 q2 q3 q4 qf) | (refine wpList_store_new rfl _ _ _ rfl [hv7, wv7] _ _ rfl rfl (by kernel_rfl) rfl (by intro u hu; simp at hu; rcases hu with rfl | rfl; exact HO7.out.1; exact HO7.out.2) ?_))
    obtain ⟨W8, hW8, hs8⟩ := Sat.hide HS7.out
    rw [← hW8]
    clear hW8 HS7 HS6
    generalize w7.heap.size = bq at hs8 ⊢
    have HLQ := Lib.hid (loadQ2 (blk_range (cs := [hv7, wv7]) (hs8.blk 0 rfl)))
    have HS8 := Lib.hid (hs8.front 3 rfl)
    clear hs8
    go_upto_region 7 with (first | (refine wpList_ld rfl _ _ rfl _ _ rfl [_, _] HLQ.out ?_) | (refine wpList_store_at rfl _ _ _ rfl tLkV b1 2 rfl [hv7, wv7] rfl [y0, y1, y2, y3, y4] HS8.out (by kernel_rfl) (by simp) (by intro u hu; simp at hu; rcases hu with rfl | rfl; exact HO7.out.1; exact HO7.out.2) ?_; intro w9 hs9; have HS9 := Lib.hid (show Sat B D7 w9 (blk b1 #[y0, y1, hv7, wv7, y4] tLkV :: _) from hs9); clear hs9 HS8))
    have HLV9 := Lib.hid (loadLkV (HS9.out.blk 0 rfl))
    have HS10 := Lib.hid (HS9.out.front 3 rfl)
    clear HS9
    go_wp2_with (first | (refine wpList_ld rfl _ _ rfl _ _ rfl [_, _, _, _, _] HLV9.out ?_) | (refine wpList_store_whole rfl _ _ _ rfl tLkV b2 rfl [y0, y1, hv7, wv7, y4] rfl zLkV HS10.out (by kernel_rfl) rfl (by intro u hu; simp at hu; rcases hu with rfl | rfl | rfl | rfl | rfl; exact HW5.out.ones.1; exact HW5.out.ones.2.1; exact HO7.out.1; exact HO7.out.2; exact HW5.out.ones.2.2) ?_; intro w11 hs11; have HS11 := Lib.hid hs11; clear hs11 HS10))
    refine bodyPost_ret (results_c2 rfl _ _ rfl (loadLkV (HS11.out.blk 0 rfl))) rfl ?_
    rw [HLD.out]
    have hw7 := HW5.out.mono HLE7.out
    refine ⟨_, _, D7, rfl, HLE5.out.trans HLE7.out, DocW.d ⟨hw7.t, hw7.m, HQ7.out, hw7.r⟩, ?_⟩
    exact HS11.out.drop.drop.drop.swap.drop
  · have HLV := Lib.hid (loadLkV (HS4.out.blk 1 rfl))
    have HLZ := Lib.hid (loadCl (blk_range (HS4.out.blk 0 rfl)))
    have HWO := Lib.hid (rWithout_ok o z HD.out HZO.out hM HS4.out)
    rw [HZC.out] at HWO
    go_upto_region 5 with (first | (refine wpList_ld rfl _ _ rfl _ _ rfl [_, _, _, _, _] HLV.out ?_) | (refine wpList_ld rfl _ _ rfl _ _ rfl _ HLZ.out ?_) | (go_at_call 101; refine HWO.out.mono ?_; rintro e5 w5 ⟨v5, D5, rfl, hle5, hd5, hs5⟩; obtain ⟨z0, z1, z2, z3, z4, rfl, h1⟩ := doc5 hd5; have HLE5 := Lib.hid hle5; have HD5 := Lib.hid (show DocD D5 _ d2 by rw [HD2.out]; exact hd5); have H1 := Lib.hid h1; have HS5 := Lib.hid (hs5.front 1 rfl); clear hle5 hd5 h1 hs5 HWO HLV HLZ HS4) | (refine wpList_store_whole rfl _ _ _ rfl tLkV b1 rfl [z0, z1, z2, z3, z4] rfl #[y0, y1, y2, y3, y4] HS5.out (by kernel_rfl) rfl H1.out ?_; intro w6 hs6; have HS6 := Lib.hid (hs6.front 2 rfl); clear hs6 HS5))
    have HW5 := Lib.hid (docW HD5.out)
    obtain ⟨q0, q1, q2, q3, q4, qf⟩ := cells5v (HS6.out.blk 1 rfl)
    have hQ2 : d2.q.held.length + d2.q.waits.length ≤ 1000 := by rw [HD2.out]; exact hQ
    have HLV5 := Lib.hid (rqLeave_ok o HW5.out.q hQ2 HS6.out)
    go_upto_region 6 with (first | (go_at_call 98; refine HLV5.out.mono ?_; rintro e7 w7 ⟨v7, iv, D7, rfl, hle7, hq7, hs7⟩; obtain ⟨hv7, wv7, rfl, o7, p7⟩ := que2 hq7; have HLE7 := Lib.hid hle7; have HQ7 := Lib.hid hq7; have HO7 := Lib.hid (And.intro o7 p7); have HS7 := Lib.hid (hs7.alloc #[hv7, wv7] tRq); clear hle7 hq7 o7 p7 hs7 HLV5 q0 q1 q2 q3 q4 qf) | (refine wpList_store_new rfl _ _ _ rfl [hv7, wv7] _ _ rfl rfl (by kernel_rfl) rfl (by intro u hu; simp at hu; rcases hu with rfl | rfl; exact HO7.out.1; exact HO7.out.2) ?_))
    obtain ⟨W8, hW8, hs8⟩ := Sat.hide HS7.out
    rw [← hW8]
    clear hW8 HS7 HS6
    generalize w7.heap.size = bq at hs8 ⊢
    have HLQ := Lib.hid (loadQ2 (blk_range (cs := [hv7, wv7]) (hs8.blk 0 rfl)))
    have HS8 := Lib.hid (hs8.front 3 rfl)
    clear hs8
    go_upto_region 7 with (first | (refine wpList_ld rfl _ _ rfl _ _ rfl [_, _] HLQ.out ?_) | (refine wpList_store_at rfl _ _ _ rfl tLkV b1 2 rfl [hv7, wv7] rfl [z0, z1, z2, z3, z4] HS8.out (by kernel_rfl) (by simp) (by intro u hu; simp at hu; rcases hu with rfl | rfl; exact HO7.out.1; exact HO7.out.2) ?_; intro w9 hs9; have HS9 := Lib.hid (show Sat B D7 w9 (blk b1 #[z0, z1, hv7, wv7, z4] tLkV :: _) from hs9); clear hs9 HS8))
    have HLV9 := Lib.hid (loadLkV (HS9.out.blk 0 rfl))
    have HS10 := Lib.hid (HS9.out.front 3 rfl)
    clear HS9
    go_wp2_with (first | (refine wpList_ld rfl _ _ rfl _ _ rfl [_, _, _, _, _] HLV9.out ?_) | (refine wpList_store_whole rfl _ _ _ rfl tLkV b2 rfl [z0, z1, hv7, wv7, z4] rfl zLkV HS10.out (by kernel_rfl) rfl (by intro u hu; simp at hu; rcases hu with rfl | rfl | rfl | rfl | rfl; exact HW5.out.ones.1; exact HW5.out.ones.2.1; exact HO7.out.1; exact HO7.out.2; exact HW5.out.ones.2.2) ?_; intro w11 hs11; have HS11 := Lib.hid hs11; clear hs11 HS10))
    refine bodyPost_ret (results_c2 rfl _ _ rfl (loadLkV (HS11.out.blk 0 rfl))) rfl ?_
    rw [HLD.out]
    have hw7 := HW5.out.mono HLE7.out
    refine ⟨_, _, D7, rfl, HLE5.out.trans HLE7.out, DocW.d ⟨hw7.t, hw7.m, HQ7.out, hw7.r⟩, ?_⟩
    exact HS11.out.drop.drop.drop.swap.drop
  · have HD5 := Lib.hid (show DocD D (.agg #[y0, y1, y2, y3, y4]) d2 by rw [HD2.out]; exact HD.out)
    have HLE5 := Lib.hid (PH.le.refl D)
    have HS6 := Lib.hid (show Sat B D w4 (blk b2 zLkV tLkV :: blk b1 #[y0, y1, y2, y3, y4] tLkV :: blk bz z.cells.toArray tCl :: l) from (HS4.out.front 1 rfl).front 2 rfl)
    clear HS4
    go_upto_region 5 with fail
    have HW5 := Lib.hid (docW HD5.out)
    obtain ⟨q0, q1, q2, q3, q4, qf⟩ := cells5v (HS6.out.blk 1 rfl)
    have hQ2 : d2.q.held.length + d2.q.waits.length ≤ 1000 := by rw [HD2.out]; exact hQ
    have HLV5 := Lib.hid (rqLeave_ok o HW5.out.q hQ2 HS6.out)
    go_upto_region 6 with (first | (go_at_call 98; refine HLV5.out.mono ?_; rintro e7 w7 ⟨v7, iv, D7, rfl, hle7, hq7, hs7⟩; obtain ⟨hv7, wv7, rfl, o7, p7⟩ := que2 hq7; have HLE7 := Lib.hid hle7; have HQ7 := Lib.hid hq7; have HO7 := Lib.hid (And.intro o7 p7); have HS7 := Lib.hid (hs7.alloc #[hv7, wv7] tRq); clear hle7 hq7 o7 p7 hs7 HLV5 q0 q1 q2 q3 q4 qf) | (refine wpList_store_new rfl _ _ _ rfl [hv7, wv7] _ _ rfl rfl (by kernel_rfl) rfl (by intro u hu; simp at hu; rcases hu with rfl | rfl; exact HO7.out.1; exact HO7.out.2) ?_))
    obtain ⟨W8, hW8, hs8⟩ := Sat.hide HS7.out
    rw [← hW8]
    clear hW8 HS7 HS6
    generalize w7.heap.size = bq at hs8 ⊢
    have HLQ := Lib.hid (loadQ2 (blk_range (cs := [hv7, wv7]) (hs8.blk 0 rfl)))
    have HS8 := Lib.hid (hs8.front 3 rfl)
    clear hs8
    go_upto_region 7 with (first | (refine wpList_ld rfl _ _ rfl _ _ rfl [_, _] HLQ.out ?_) | (refine wpList_store_at rfl _ _ _ rfl tLkV b1 2 rfl [hv7, wv7] rfl [y0, y1, y2, y3, y4] HS8.out (by kernel_rfl) (by simp) (by intro u hu; simp at hu; rcases hu with rfl | rfl; exact HO7.out.1; exact HO7.out.2) ?_; intro w9 hs9; have HS9 := Lib.hid (show Sat B D7 w9 (blk b1 #[y0, y1, hv7, wv7, y4] tLkV :: _) from hs9); clear hs9 HS8))
    have HLV9 := Lib.hid (loadLkV (HS9.out.blk 0 rfl))
    have HS10 := Lib.hid (HS9.out.front 3 rfl)
    clear HS9
    go_wp2_with (first | (refine wpList_ld rfl _ _ rfl _ _ rfl [_, _, _, _, _] HLV9.out ?_) | (refine wpList_store_whole rfl _ _ _ rfl tLkV b2 rfl [y0, y1, hv7, wv7, y4] rfl zLkV HS10.out (by kernel_rfl) rfl (by intro u hu; simp at hu; rcases hu with rfl | rfl | rfl | rfl | rfl; exact HW5.out.ones.1; exact HW5.out.ones.2.1; exact HO7.out.1; exact HO7.out.2; exact HW5.out.ones.2.2) ?_; intro w11 hs11; have HS11 := Lib.hid hs11; clear hs11 HS10))
    refine bodyPost_ret (results_c2 rfl _ _ rfl (loadLkV (HS11.out.blk 0 rfl))) rfl ?_
    rw [HLD.out]
    have hw7 := HW5.out.mono HLE7.out
    refine ⟨_, _, D7, rfl, HLE5.out.trans HLE7.out, DocW.d ⟨hw7.t, hw7.m, HQ7.out, hw7.r⟩, ?_⟩
    exact HS11.out.drop.drop.drop.swap.drop
set_option maxHeartbeats 16000000 in
theorem rkEnd_ok {B w : World} {D : PH} {l : List HP} {v : Value} {d : DocM} (o : Int) (hd : DocD D v d) (hM : d.r.length ≤ 1000) (hQ : d.q.held.length + d.q.waits.length ≤ 1000) (s : Sat B D w l) :
    Calls Tryz.prog 59 #[v, .int .i64 o] w (DocEnd B D l (endD d o).1 (endD d o).2) := by
  obtain ⟨i0, hi, hz0, hz1, hz2⟩ := info_parts infoRea
  have HI := Lib.hid (And.intro hi (And.intro hz0 (And.intro hz1 hz2)))
  obtain ⟨i1, gi, gz0, gz1, gz2⟩ := info_parts infoInt
  have HI1 := Lib.hid (And.intro gi (And.intro gz0 (And.intro gz1 gz2)))
  obtain ⟨y0, y1, y2, y3, y4, rfl, _⟩ := doc5 hd
  have hdw := docW hd
  obtain ⟨es, hr, hrr⟩ := hdw.r
  have hel : es.length ≤ 1000 := by rw [← List.length_map (f := reaE), hrr]; exact hM
  obtain ⟨ra, rc, rfl⟩ := hr.1.shape
  obtain ⟨N, hN⟩ : ∃ N, es.length = N := ⟨_, rfl⟩
  have HN := Lib.hid hN
  rw [hN] at hr hel hdw ⊢
  obtain ⟨W1, hW1, hs1⟩ := two_new s #[y0, y1, y2, y3, .slice ra N rc] zLkV tLkV tLkV
  have HW1 := Lib.hid hW1
  have HS1 := Lib.hid hs1
  have HLV := Lib.hid (rqLeave_ok o hdw.q hQ hs1)
  have hgv := leaveQ_given (R := RC) d.q o
  have hln := leaveQ_len (R := RC) d.q o
  obtain ⟨q0, q1, q2, q3, q4, qf⟩ := cells5v (hs1.blk 0 rfl)
  have HDW := Lib.hid hdw
  have HR := Lib.hid hr
  have HWO := Lib.hid (show (es.filter (fun e => decide (e.o ≠ o))).map reaE = endE d.r o by unfold endE; rw [← hrr, List.filter_map]; rfl)
  obtain ⟨Q1, hQ1⟩ : ∃ Q1, Q1 = leaveQ RC d.q o := ⟨_, rfl⟩
  have HED := Lib.hid (show endD d o = (⟨d.ts, d.room, (dropQ RC Q1.1 (ofE o)).1, endE d.r o⟩, Q1.2 ++ (dropQ RC Q1.1 (ofE o)).2) by unfold endD; rw [hQ1])
  rw [← hQ1] at HLV hgv hln
  have hgd := dropQ_given (R := RC) Q1.1 (ofE o)
  clear s hs1 hW1 hd hdw hr hrr hN hQ1 hi hz0 hz1 hz2 gi gz0 gz1 gz2
  go_enter Tryz.func59, Tryz.ntmps59
  go_upto_region 1 with fail
  rw [← HW1.out]
  clear HW1
  generalize w.heap.size + 1 = b2 at *
  generalize w.heap.size = b1 at *
  go_upto_region 2 with (first | (go_at_call 98; refine HLV.out.mono ?_; rintro e7 w7 ⟨v7, iv, D7, rfl, hle7, hq7, hs7⟩; obtain ⟨hv7, wv7, rfl, o7, p7⟩ := que2 hq7; have HLE7 := Lib.hid hle7; have HQ7 := Lib.hid hq7; have HO7 := Lib.hid (And.intro o7 p7); have HS7 := Lib.hid (hs7.alloc #[hv7, wv7] tRq); clear hle7 hq7 o7 p7 hs7 HLV HS1 q0 q1 q2 q3 q4 qf) | (refine wpList_store_new rfl _ _ _ rfl [hv7, wv7] _ _ rfl rfl (by kernel_rfl) rfl (by intro u hu; simp at hu; rcases hu with rfl | rfl; exact HO7.out.1; exact HO7.out.2) ?_))
  obtain ⟨W8, hW8, hs8⟩ := Sat.hide HS7.out
  rw [← hW8]
  clear hW8 HS7
  generalize w7.heap.size = bq at hs8 ⊢
  have HLQ := Lib.hid (loadQ2 (blk_range (cs := [hv7, wv7]) (hs8.blk 0 rfl)))
  have HCL := Lib.hid (rqClear_ok o HQ7.out (Nat.le_trans hln hQ) hs8)
  clear hs8
  go_upto_region 3 with (first | (refine wpList_ld rfl _ _ rfl _ _ rfl [_, _] HLQ.out ?_) | (go_at_call 99; refine HCL.out.mono ?_; rintro e9 w9 ⟨v9, iv9, D9, rfl, hle9, hq9, hs9⟩; obtain ⟨hv9, wv9, rfl, o9, p9⟩ := que2 hq9; have HLE9 := Lib.hid (HLE7.out.trans hle9); have HQ9 := Lib.hid hq9; have HO9 := Lib.hid (And.intro o9 p9); have HS9 := Lib.hid (hs9.alloc #[hv9, wv9] tRq); clear hle9 hq9 o9 p9 hs9 HCL HLQ) | (refine wpList_store_new rfl _ _ _ rfl [hv9, wv9] _ _ rfl rfl (by kernel_rfl) rfl (by intro u hu; simp at hu; rcases hu with rfl | rfl; exact HO9.out.1; exact HO9.out.2) ?_))
  obtain ⟨W10, hW10, hs10⟩ := Sat.hide HS9.out
  rw [← hW10]
  clear hW10 HS9
  generalize w9.heap.size = bq2 at hs10 ⊢
  have HLQ2 := Lib.hid (loadQ2 (blk_range (cs := [hv9, wv9]) (hs10.blk 0 rfl)))
  have HS10 := Lib.hid (hs10.front 4 rfl)
  clear hs10
  go_upto_region 4 with (first | (refine wpList_ld rfl _ _ rfl _ _ rfl [_, _] HLQ2.out ?_) | (refine wpList_store_at rfl _ _ _ rfl tLkV b1 2 rfl [hv9, wv9] rfl [y0, y1, y2, y3, .slice ra N rc] HS10.out (by kernel_rfl) (by simp) (by intro u hu; simp at hu; rcases hu with rfl | rfl; exact HO9.out.1; exact HO9.out.2) ?_; intro w11 hs11; have HS11 := Lib.hid (show Sat B D9 w11 (blk b1 #[y0, y1, hv9, wv9, .slice ra N rc] tLkV :: _) from hs11); clear hs11 HS10))
  obtain ⟨va9, vc9, rfl⟩ := (HS11.out.front 2 rfl).own_shape
  have HS12 := Lib.hid (show Sat B D9 w11 (ownS 3 1 iv Q1.2.length (Q1.2.map (Value.int .i64)) :: ownS 3 1 (.slice va9 (dropQ RC Q1.1 (ofE o)).2.length vc9) (dropQ RC Q1.1 (ofE o)).2.length ((dropQ RC Q1.1 (ofE o)).2.map (Value.int .i64)) :: blk b1 #[y0, y1, hv9, wv9, .slice ra N rc] tLkV :: blk bq2 #[hv9, wv9] tRq :: blk bq #[hv7, wv7] tRq :: blk b2 zLkV tLkV :: l) from (HS11.out.front 2 rfl).front 4 rfl)
  have HRD := Lib.hid (HS12.out.own 1 rfl).rd
  clear HS11 HLQ2
  have hQw : Q1.1.waits.length ≤ 1000 := by omega
  go_upto_region 5 with (at_builtin; refine wpList_append_Sat _ rfl _ _ 42 rfl 3 i1 _ 1 8 Tryz.underlying42 HI1.out.1 HI1.out.2.1 HI1.out.2.2.1 HI1.out.2.2.2 rfl _ Q1.2.length _ rfl HS12.out _ (dropQ RC Q1.1 (ofE o)).2.length _ rfl HRD.out (by intro u hu; obtain ⟨x, _, rfl⟩ := List.mem_map.1 hu; rfl) (by unfold maxLen; omega) (by omega) ?_; intro v13 w13 hs13 h13; have HS13 := Lib.hid hs13; clear hs13 h13 HS12 HRD)
  have HS14 := Lib.hid (show Sat B D9 w13 (reasP (.slice none 0 0) [] :: blk b1 #[y0, y1, hv9, wv9, .slice ra N rc] tLkV :: intsP v13 (Q1.2 ++ (dropQ RC Q1.1 (ofE o)).2) :: blk b2 zLkV tLkV :: l) from by
    have h1 := (((HS13.out.front 1 rfl).drop).rm2.rm2.front 1 rfl)
    have h2 : Sat B D9 w13 (blk b1 #[y0, y1, hv9, wv9, .slice ra N rc] tLkV :: ownS 3 1 v13 (Q1.2.length + (dropQ RC Q1.1 (ofE o)).2.length) (Q1.2.map (Value.int .i64) ++ (dropQ RC Q1.1 (ofE o)).2.map (Value.int .i64)) :: blk b2 zLkV tLkV :: l) := h1
    rw [← List.map_append, ← List.length_append] at h2
    exact h2.own_nil tRea 19)
  obtain ⟨gva, hgva⟩ : ∃ g, g = Q1.2 ++ (dropQ RC Q1.1 (ofE o)).2 := ⟨_, rfl⟩
  rw [← hgva] at HS14 HED
  clear HS13 hgva
  go_wp2_with fail
  go_loopw [10, 11] (fun ot i wr => ∃ (j : Nat) (oa : Option Addr) (oc : Nat) (zs : List ReaE), i = .int .i64 j ∧ ot = .slice oa zs.length oc ∧ j ≤ N ∧ zs = (es.take j).filter (fun e => decide (e.o ≠ o)) ∧ Sat B D9 wr (reasP (.slice oa zs.length oc) zs :: blk b1 #[y0, y1, hv9, wv9, .slice ra N rc] tLkV :: intsP v13 gva :: blk b2 zLkV tLkV :: l)) (fun _ i _ => N - (intOf i).toNat)
  case atStart => exact ⟨0, none, 0, [], rfl, rfl, by omega, rfl, HS14.out⟩
  case round =>
    obtain ⟨j, oa, oc, zs, rfl, rfl, hj, hzs, hs3⟩ := hrel
    have hle : zs.length ≤ j := by rw [hzs]; exact Nat.le_trans (List.length_filter_le _ _) (by rw [List.length_take]; omega)
    have HZS := Lib.hid hzs
    have HS3 := Lib.hid hs3
    clear hzs hs3 HS14
    obtain ⟨q0, q1, q2, q3, q4, qf⟩ := cells5v (HS3.out.blk 1 rfl)
    by_cases hlt : j < N
    · have hii : (j : Int) < (N : Int) := by omega
      obtain ⟨x, hx⟩ : ∃ x, es[j]? = some x := ⟨es[j]'(by rw [HN.out]; exact hlt), List.getElem?_eq_getElem _⟩
      obtain ⟨g, og, rfl, hrng⟩ := elem_range lenE (by have := (HR.out.mono HLE9.out).1.rd HS3.out; rw [HN.out] at this; exact this) hx HN.out
      have y0' := (rangeE hrng).2.1
      have HL := Lib.hid (loadE hrng)
      have HX := Lib.hid hx
      clear hx hrng
      by_cases ho : x.o = o
      · have hne : (x.o != o) = false := by simpa using ho
        have HT := Lib.hid (filter_take_no (q := fun e : ReaE => decide (e.o ≠ o)) HX.out (by simp [ho]))
        clear ho HL
        go_wp2_with fail
        go_roundw
        case rel => exact ⟨j + 1, oa, oc, zs, by go_num, rfl, by omega, by rw [HT.out]; exact HZS.out, HS3.out⟩
        case measure => simp [intOf]; omega
      · have hne : (x.o != o) = true := by simpa using ho
        have HT := Lib.hid (filter_take_yes (q := fun e : ReaE => decide (e.o ≠ o)) HX.out (by simp [ho]))
        have HS5 := Lib.hid ((HS3.out.alloc (cellsE x).toArray tRea).front 1 rfl)
        have HRD := Lib.hid (rd_block (size := 19) (n := 1) (HS5.out.blk 1 rfl) (by simp [lenE]) (by unfold maxLen; omega))
        clear HS3 ho
        go_wp2_with (first | (refine wpList_ld rfl _ _ rfl _ _ rfl _ HL.out ?_) | (refine wpList_build_one rfl _ _ rfl tRea i0 _ (cellsE x) rfl Tryz.underlying59 HI.out.1 HI.out.2.1 (HI.out.2.2.1.trans rfl) (by rw [lenE]; decide) (by rw [lenE]; decide) ?_) | (at_builtin; refine wpList_append_Sat _ rfl _ _ tReas rfl tRea i0 _ 19 208 Tryz.underlying59 HI.out.1 HI.out.2.1 HI.out.2.2.1 HI.out.2.2.2 rfl _ zs.length _ rfl HS5.out _ 1 _ rfl HRD.out (by simpa using oneE x) (by unfold maxLen; omega) (by omega) ?_; intro v15 w15 hs15 h15; obtain ⟨va, vc, rfl⟩ := hs15.own_shape; have HS15 := Lib.hid hs15; clear hs15 h15 HS5 HRD HL))
        go_roundw
        case rel =>
          refine ⟨j + 1, va, vc, zs ++ [x], by go_num, by rw [List.length_append]; rfl, by omega, by rw [HT.out, HZS.out], ?_⟩
          show Sat B D9 w15 (ownS tRea 19 (.slice va (zs ++ [x]).length vc) (zs ++ [x]).length ((zs ++ [x]).flatMap cellsE) :: _)
          rw [List.length_append, List.flatMap_append]
          have h9 := (HS15.out.front 1 rfl).drop
          simpa using h9
        case measure => simp [intOf]; omega
    · have hji : ¬ ((j : Int) < (N : Int)) := by omega
      have HT := Lib.hid (show zs = es.filter (fun e => decide (e.o ≠ o)) by rw [HZS.out, List.take_of_length_le (by rw [HN.out]; omega)])
      have HS4 := Lib.hid (Sat.set5e (HS3.out.front 1 rfl) (.slice oa zs.length oc))
      go_upto_region 12 with fail
      obtain ⟨W8, hW8, hs8⟩ := Sat.hide HS4.out
      rw [← hW8]
      clear hW8 HS4 HS3 q0 q1 q2 q3 q4 qf
      obtain ⟨D2, hle2, hE2, hs9⟩ := reas_give (hs8.front 1 rfl) (fun e he => by rw [HZS.out] at he; exact (HR.out.2 e (List.mem_of_mem_take (List.mem_filter.1 he).1)).mono HLE9.out)
      have HLV := Lib.hid (loadLkV (hs9.blk 0 rfl))
      have HS9 := Lib.hid (hs9.front 2 rfl)
      have HLE2 := Lib.hid hle2
      have HE2 := Lib.hid hE2
      clear hs8 hs9 hE2 hle2
      go_wp2_with (first | (refine wpList_ld rfl _ _ rfl _ _ rfl [_, _, _, _, _] HLV.out ?_) | (refine wpList_store_whole rfl _ _ _ rfl tLkV b2 rfl [y0, y1, hv9, wv9, .slice oa zs.length oc] rfl zLkV HS9.out (by kernel_rfl) rfl (by intro u hu; simp at hu; rcases hu with rfl | rfl | rfl | rfl | rfl; exact HDW.out.ones.1; exact HDW.out.ones.2.1; exact HO9.out.1; exact HO9.out.2; rfl) ?_; intro w20 hs20; have HS20 := Lib.hid hs20; clear hs20 HS9))
      refine bodyPost_ret (results_c2 rfl _ _ rfl (loadLkV (HS20.out.blk 0 rfl))) rfl ?_
      rw [HED.out]
      have hw7 := (HDW.out.mono HLE9.out).mono HLE2.out
      exact ⟨_, _, D2, rfl, HLE9.out.trans HLE2.out, DocW.d ⟨hw7.t, hw7.m, HQ9.out.mono HLE2.out, ⟨zs, HE2.out, by rw [HT.out]; exact HWO.out⟩⟩, HS20.out.drop.drop⟩
end Go.Proofs.YtgljdkjepdknnaaGreatDoor
