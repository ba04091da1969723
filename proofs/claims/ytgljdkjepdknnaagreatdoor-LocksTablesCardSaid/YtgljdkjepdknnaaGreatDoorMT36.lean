/- Joined texts: The document's locks: ending what is held to the statement's end, by a cursor; ending to wait; the end (ratlineref11). (printed by genrk4.py) The document's locks: ending to wait; the end (ratlineref11.Locks.Leave, End). (printed by genrk5.py) -/
import Derived.Test.YtgljdkjepdknnaaGreatDoorMT35
import Derived.Test.YtgljdkjepdknnaaGreatDoorMT33
import Derived.Test.YtgljdkjepdknnaaGreatDoorMT28
set_option maxHeartbeats 64000000
namespace Go.Proofs.YtgljdkjepdknnaaGreatDoor
open Go.ChangeShapes Go.WideShapes Go.ChangeAt Go.RowKit
set_option maxRecDepth 100000
set_option linter.unusedSimpArgs false
theorem eW {D : PH} {v : Value} {d : DocM} (h : DocD D v d) : ∃ y0 y1 y2 y3 y4, v = .agg #[y0, y1, y2, y3, y4] ∧ ∀ u ∈ [y0, y1, y2, y3, y4], u.oneCell' = true := by
  obtain ⟨tv, hv, wv, rv, es, rfl, ⟨_, _, _, ht, _⟩, ⟨hv', wv', _, _, hq, hh, hw, _, _⟩, hr, _⟩ := h
  obtain ⟨rfl, rfl⟩ : hv = hv' ∧ wv = wv' := by simpa using hq
  refine ⟨_, _, _, _, _, rfl, fun u hu => ?_⟩
  simp at hu
  rcases hu with rfl | rfl | rfl | rfl | rfl
  · exact ht.oneV
  · rfl
  · exact hh.1.oneV
  · exact hw.1.oneV
  · exact hr.1.oneV
theorem mi {B w : World} {D : PH} {l : List HP} {v : Value} {d : DocM} (o : Int) (hd : DocD D v d) (hM : d.r.length ≤ 1000) (hQ : d.q.held.length + d.q.waits.length ≤ 1000) (s : Sat B D w l) :
    Calls Tryz.prog 57 #[v, .int .i64 o] w (g3 B D l (dX d o 1 0).1 (dX d o 1 0).2) := by
  obtain ⟨y0, y1, y2, y3, y4, rfl, _⟩ := eW hd
  obtain ⟨W1, hW1, hs1⟩ := cy s #[y0, y1, y2, y3, y4] cd aP aP
  have sR := BO hW1
  have sS := BO hs1
  have tm := BO (aF (hs1.blk 0 rfl))
  have wf := BO (jZ o 1 0 hd hM hQ hs1)
  clear s hs1 hW1 hd
  go_enter Tryz.func57, Tryz.ntmps57
  go_upto_region 1 with fail
  rw [← sR.out]
  clear sR
  generalize w.heap.size + 1 = b2 at *
  generalize w.heap.size = b1 at *
  go_wp2_with (first | (refine ag rfl _ _ rfl _ _ rfl [_, _, _, _, _] tm.out ?_) | (go_at_call 97; refine wf.out.mono ?_; rintro e2 w2 ⟨v2, iv, D2, rfl, hle, hd2, hs2⟩; obtain ⟨z0, z1, z2, z3, z4, rfl, h1⟩ := eW hd2; have tt := BO hle; have wo := BO hd2; have H1 := BO h1; have sX := BO (hs2.front 2 rfl); clear hle hd2 h1 hs2 wf tm sS) | (refine aq rfl _ _ _ rfl aP b2 rfl [z0, z1, z2, z3, z4] rfl cd sX.out (by kernel_rfl) rfl H1.out ?_; intro w3 hs3; have sU := BO hs3; clear hs3 sX))
  refine bodyPost_ret (aL rfl _ _ rfl (aF (sU.out.blk 0 rfl))) rfl ?_
  exact ⟨_, _, D2, rfl, tt.out, wo.out, (sU.out.drop.swap.drop)⟩
theorem mE {B w : World} {D : PH} {l : List HP} {v : Value} {d : DocM} (o hand : Int) (h1 : ¬ hand < 1) (h2 : ¬ 2 < hand) (hd : DocD D v d) (hM : d.r.length ≤ 1000) (hQ : d.q.held.length + d.q.waits.length ≤ 1000) (s : Sat B D w l) :
    Calls Tryz.prog 58 #[v, .int .i64 o, .int .i64 hand] w (g3 B D l (dX d o 2 hand).1 (dX d o 2 hand).2) := by
  obtain ⟨y0, y1, y2, y3, y4, rfl, _⟩ := eW hd
  obtain ⟨W1, hW1, hs1⟩ := cy s #[y0, y1, y2, y3, y4] cd aP aP
  have sR := BO hW1
  have sS := BO hs1
  have tm := BO (aF (hs1.blk 0 rfl))
  have wf := BO (jZ o 2 hand hd hM hQ hs1)
  clear s hs1 hW1 hd
  go_enter Tryz.func58, Tryz.ntmps58
  go_upto_region 1 with fail
  rw [← sR.out]
  clear sR
  generalize w.heap.size + 1 = b2 at *
  generalize w.heap.size = b1 at *
  go_wp2_with (first | (refine ag rfl _ _ rfl _ _ rfl [_, _, _, _, _] tm.out ?_) | (go_at_call 97; refine wf.out.mono ?_; rintro e2 w2 ⟨v2, iv, D2, rfl, hle, hd2, hs2⟩; obtain ⟨z0, z1, z2, z3, z4, rfl, h1⟩ := eW hd2; have tt := BO hle; have wo := BO hd2; have H1 := BO h1; have sX := BO (hs2.front 2 rfl); clear hle hd2 h1 hs2 wf tm sS) | (refine aq rfl _ _ _ rfl aP b2 rfl [z0, z1, z2, z3, z4] rfl cd sX.out (by kernel_rfl) rfl H1.out ?_; intro w3 hs3; have sU := BO hs3; clear hs3 sX))
  refine bodyPost_ret (aL rfl _ _ rfl (aF (sU.out.blk 0 rfl))) rfl ?_
  exact ⟨_, _, D2, rfl, tt.out, wo.out, (sU.out.drop.swap.drop)⟩
theorem nc {B w : World} {D : PH} {l : List HP} {v : Value} {d : DocM} (o hand : Int) (h1 : hand < 1 ∨ 2 < hand) (hd : DocD D v d) (hM : d.r.length ≤ 1000) (hQ : d.q.held.length + d.q.waits.length ≤ 1000) (s : Sat B D w l) :
    Calls Tryz.prog 58 #[v, .int .i64 o, .int .i64 hand] w (g3 B D l (dX d o 0 0).1 (dX d o 0 0).2) := by
  obtain ⟨y0, y1, y2, y3, y4, rfl, _⟩ := eW hd
  obtain ⟨W1, hW1, hs1⟩ := cy s #[y0, y1, y2, y3, y4] cd aP aP
  have sR := BO hW1
  have sS := BO hs1
  have tm := BO (aF (hs1.blk 0 rfl))
  have wf := BO (jZ o 0 0 hd hM hQ hs1)
  clear s hs1 hW1 hd
  go_enter Tryz.func58, Tryz.ntmps58
  go_upto_region 1 with fail
  rw [← sR.out]
  clear sR
  generalize w.heap.size + 1 = b2 at *
  generalize w.heap.size = b1 at *
  have h3 : hand < 1 ∨ (¬ hand < 1 ∧ hand > 2) := by omega
  clear h1
  rcases h3 with h1 | ⟨h1, h2⟩
  all_goals
   go_wp2_with (first | (refine ag rfl _ _ rfl _ _ rfl [_, _, _, _, _] tm.out ?_) | (go_at_call 97; refine wf.out.mono ?_; rintro e2 w2 ⟨v2, iv, D2, rfl, hle, hd2, hs2⟩; obtain ⟨z0, z1, z2, z3, z4, rfl, h1⟩ := eW hd2; have tt := BO hle; have wo := BO hd2; have H1 := BO h1; have sX := BO (hs2.front 2 rfl); clear hle hd2 h1 hs2 wf tm sS) | (refine aq rfl _ _ _ rfl aP b2 rfl [z0, z1, z2, z3, z4] rfl cd sX.out (by kernel_rfl) rfl H1.out ?_; intro w3 hs3; have sU := BO hs3; clear hs3 sX))
   refine bodyPost_ret (aL rfl _ _ rfl (aF (sU.out.blk 0 rfl))) rfl ?_
   exact ⟨_, _, D2, rfl, tt.out, wo.out, (sU.out.drop.swap.drop)⟩
structure DocW (D : PH) (y0 y1 y2 y3 y4 : Value) (d : DocM) : Prop where
  t : TblsAt D y0 d.ts
  m : y1 = .int .i64 d.room
  q : QueD D (.agg #[y2, y3]) d.q
  r : ∃ es, ReasD D y4 es ∧ es.map hJ = d.r
theorem kB {D : PH} {y0 y1 y2 y3 y4 : Value} {d : DocM} (h : DocD D (.agg #[y0, y1, y2, y3, y4]) d) : DocW D y0 y1 y2 y3 y4 d := by
  obtain ⟨tv, hv, wv, rv, es, he, ht, hq, hr, hrr⟩ := h
  simp only [Value.agg.injEq, Array.mk.injEq, List.cons.injEq, and_true] at he
  obtain ⟨rfl, h1, rfl, rfl, rfl⟩ := he
  exact ⟨ht, h1, hq, es, hr, hrr⟩
theorem DocW.d {D : PH} {y0 y1 y2 y3 y4 : Value} {d : DocM} (h : DocW D y0 y1 y2 y3 y4 d) : DocD D (.agg #[y0, y1, y2, y3, y4]) d := by
  obtain ⟨ht, rfl, hq, es, hr, hrr⟩ := h
  exact ⟨_, _, _, _, es, rfl, ht, hq, hr, hrr⟩
theorem DocW.mono {D D' : PH} {y0 y1 y2 y3 y4 : Value} {d : DocM} (h : DocW D y0 y1 y2 y3 y4 d) (le : PH.le D D') : DocW D' y0 y1 y2 y3 y4 d := by
  obtain ⟨ht, h1, hq, es, hr, hrr⟩ := h
  exact ⟨ht.mono le, h1, hq.mono le, es, hr.mono le, hrr⟩
theorem DocW.ones {D : PH} {y0 y1 y2 y3 y4 : Value} {d : DocM} (h : DocW D y0 y1 y2 y3 y4 d) : y0.oneCell' = true ∧ y1.oneCell' = true ∧ y4.oneCell' = true := by
  obtain ⟨⟨_, _, _, ht, _⟩, rfl, _, es, hr, _⟩ := h
  exact ⟨ht.oneV, rfl, hr.1.oneV⟩
theorem kS {D : PH} {v : Value} {Q : Qm Clm} (h : QueD D v Q) : ∃ y z, v = .agg #[y, z] ∧ y.oneCell' = true ∧ z.oneCell' = true := by
  obtain ⟨hv, wv, _, _, rfl, hh, hw, _, _⟩ := h
  exact ⟨hv, wv, rfl, hh.1.oneV, hw.1.oneV⟩
noncomputable def dZ (d : DocM) (o : Int) : DocM × List Int :=
  (⟨d.ts, d.room, (bj RC d.q o).1, if (aS d.q o).2 && !(aE d.q o).any (fun h => RC.same h (aS d.q o).1) then bw d.r o (aS d.q o).1 else d.r⟩, (bj RC d.q o).2)
noncomputable def iq (d : DocM) (o : Int) : DocM × List Int :=
  (⟨d.ts, d.room, (a8 RC (bj RC d.q o).1 (ofE o)).1, kY d.r o⟩, (bj RC d.q o).2 ++ (a8 RC (bj RC d.q o).1 (ofE o)).2)
theorem oq {B w : World} {D : PH} {l : List HP} {v : Value} {d : DocM} (o : Int) (hd : DocD D v d) (hM : d.r.length ≤ 1000) (hQ : d.q.held.length + d.q.waits.length ≤ 1000) (s : Sat B D w l) :
    Calls Tryz.prog 60 #[v, .int .i64 o] w (g3 B D l (dZ d o).1 (dZ d o).2) := by
  obtain ⟨y0, y1, y2, y3, y4, rfl, _⟩ := eW hd
  have hdw := kB hd
  obtain ⟨W1, hW1, hs1⟩ := cy s #[y0, y1, y2, y3, y4] cd aP aP
  have sR := BO hW1
  have sS := BO hs1
  have uJ := BO (eM o hdw.q hs1)
  obtain ⟨q0, q1, q2, q3, q4, qf⟩ := aZ (hs1.blk 0 rfl)
  have HD := BO hd
  clear s hs1 hW1 hd hdw
  go_enter Tryz.func60, Tryz.ntmps60
  go_upto_region 1 with fail
  rw [← sR.out]
  clear sR
  generalize w.heap.size + 1 = b2 at *
  generalize w.heap.size = b1 at *
  go_upto_region 2 with (first | (go_at_call 32; refine uJ.out.mono ?_; rintro e1 w1 ⟨z, rfl, hzc, hzo, _, hs2⟩; have vU := BO hzc; have xN := BO hzo; have sX := BO (hs2.alloc z.cells.toArray tCl); clear hzc hzo hs2 uJ sS q0 q1 q2 q3 q4 qf) | (refine ax rfl _ _ _ rfl z.cells _ _ rfl rfl (by kernel_rfl) rfl (ClmE.one z) ?_))
  obtain ⟨W3, hW3, hs3⟩ := Sat.hide sX.out
  rw [← hW3]
  clear hW3 sX
  generalize w1.heap.size = bz at hs3 ⊢
  have tm := BO (aF (hs3.blk 1 rfl))
  have tG := BO (ay (ai (hs3.blk 0 rfl)))
  have yG := BO (oY o z HD.out xN.out (by omega) hs3)
  rw [vU.out] at yG
  clear hs3
  go_upto_region 3 with (first | (refine ag rfl _ _ rfl _ _ rfl [_, _, _, _, _] tm.out ?_) | (refine ag rfl _ _ rfl _ _ rfl _ tG.out ?_) | (go_at_call 100; refine yG.out.mono ?_; rintro e4 w4 ⟨rfl, hs4⟩; have sY := BO hs4; clear hs4 yG tm tG))
  obtain ⟨wb, hwb⟩ : ∃ wb, wb = (aS d.q o).2 := ⟨_, rfl⟩
  obtain ⟨hb, hhb⟩ : ∃ hb, hb = (aE d.q o).any (fun h => RC.same h (aS d.q o).1) := ⟨_, rfl⟩
  rw [← hwb, ← hhb]
  obtain ⟨d2, hd2⟩ : ∃ d2 : DocM, d2 = ⟨d.ts, d.room, d.q, if wb && !hb then bw d.r o (aS d.q o).1 else d.r⟩ := ⟨_, rfl⟩
  have wo := BO hd2
  have yi := BO (show dZ d o = (⟨d2.ts, d2.room, (bj RC d2.q o).1, d2.r⟩, (bj RC d2.q o).2) by unfold dZ; rw [hd2, ← hwb, ← hhb])
  clear hwb hhb hd2
  cases wb <;> cases hb
  · have xJ := BO (show DocD D (.agg #[y0, y1, y2, y3, y4]) d2 by rw [wo.out]; exact HD.out)
    have tz := BO (PH.le.refl D)
    have s0 := BO (show Sat B D w4 (blk b2 cd aP :: blk b1 #[y0, y1, y2, y3, y4] aP :: blk bz z.cells.toArray tCl :: l) from (sY.out.front 1 rfl).front 2 rfl)
    clear sY
    go_upto_region 5 with fail
    have vh := BO (kB xJ.out)
    obtain ⟨q0, q1, q2, q3, q4, qf⟩ := aZ (s0.out.blk 1 rfl)
    have hQ2 : d2.q.held.length + d2.q.waits.length ≤ 1000 := by rw [wo.out]; exact hQ
    have vi := BO (eU o vh.out.q hQ2 s0.out)
    go_upto_region 6 with (first | (go_at_call 98; refine vi.out.mono ?_; rintro e7 w7 ⟨v7, iv, D7, rfl, hle7, hq7, hs7⟩; obtain ⟨hv7, wv7, rfl, o7, p7⟩ := kS hq7; have tq := BO hle7; have wg := BO hq7; have tQ := BO (And.intro o7 p7); have td := BO (hs7.alloc #[hv7, wv7] tRq); clear hle7 hq7 o7 p7 hs7 vi q0 q1 q2 q3 q4 qf) | (refine ax rfl _ _ _ rfl [hv7, wv7] _ _ rfl rfl (by kernel_rfl) rfl (by intro u hu; simp at hu; rcases hu with rfl | rfl; exact tQ.out.1; exact tQ.out.2) ?_))
    obtain ⟨W8, hW8, hs8⟩ := Sat.hide td.out
    rw [← hW8]
    clear hW8 td s0
    generalize w7.heap.size = bq at hs8 ⊢
    have tL := BO (bi (ai (cs := [hv7, wv7]) (hs8.blk 0 rfl)))
    have tj := BO (hs8.front 3 rfl)
    clear hs8
    go_upto_region 7 with (first | (refine ag rfl _ _ rfl _ _ rfl [_, _] tL.out ?_) | (refine bd rfl _ _ _ rfl aP b1 2 rfl [hv7, wv7] rfl [y0, y1, y2, y3, y4] tj.out (by kernel_rfl) (by simp) (by intro u hu; simp at hu; rcases hu with rfl | rfl; exact tQ.out.1; exact tQ.out.2) ?_; intro w9 hs9; have ti := BO (show Sat B D7 w9 (blk b1 #[y0, y1, hv7, wv7, y4] aP :: _) from hs9); clear hs9 tj))
    have wh := BO (aF (ti.out.blk 0 rfl))
    have s9 := BO (ti.out.front 3 rfl)
    clear ti
    go_wp2_with (first | (refine ag rfl _ _ rfl _ _ rfl [_, _, _, _, _] wh.out ?_) | (refine aq rfl _ _ _ rfl aP b2 rfl [y0, y1, hv7, wv7, y4] rfl cd s9.out (by kernel_rfl) rfl (by intro u hu; simp at hu; rcases hu with rfl | rfl | rfl | rfl | rfl; exact vh.out.ones.1; exact vh.out.ones.2.1; exact tQ.out.1; exact tQ.out.2; exact vh.out.ones.2.2) ?_; intro w11 hs11; have s6 := BO hs11; clear hs11 s9))
    refine bodyPost_ret (aL rfl _ _ rfl (aF (s6.out.blk 0 rfl))) rfl ?_
    rw [yi.out]
    have hw7 := vh.out.mono tq.out
    refine ⟨_, _, D7, rfl, tz.out.trans tq.out, DocW.d ⟨hw7.t, hw7.m, wg.out, hw7.r⟩, ?_⟩
    exact s6.out.drop.drop.drop.swap.drop
  · have xJ := BO (show DocD D (.agg #[y0, y1, y2, y3, y4]) d2 by rw [wo.out]; exact HD.out)
    have tz := BO (PH.le.refl D)
    have s0 := BO (show Sat B D w4 (blk b2 cd aP :: blk b1 #[y0, y1, y2, y3, y4] aP :: blk bz z.cells.toArray tCl :: l) from (sY.out.front 1 rfl).front 2 rfl)
    clear sY
    go_upto_region 5 with fail
    have vh := BO (kB xJ.out)
    obtain ⟨q0, q1, q2, q3, q4, qf⟩ := aZ (s0.out.blk 1 rfl)
    have hQ2 : d2.q.held.length + d2.q.waits.length ≤ 1000 := by rw [wo.out]; exact hQ
    have vi := BO (eU o vh.out.q hQ2 s0.out)
    go_upto_region 6 with (first | (go_at_call 98; refine vi.out.mono ?_; rintro e7 w7 ⟨v7, iv, D7, rfl, hle7, hq7, hs7⟩; obtain ⟨hv7, wv7, rfl, o7, p7⟩ := kS hq7; have tq := BO hle7; have wg := BO hq7; have tQ := BO (And.intro o7 p7); have td := BO (hs7.alloc #[hv7, wv7] tRq); clear hle7 hq7 o7 p7 hs7 vi q0 q1 q2 q3 q4 qf) | (refine ax rfl _ _ _ rfl [hv7, wv7] _ _ rfl rfl (by kernel_rfl) rfl (by intro u hu; simp at hu; rcases hu with rfl | rfl; exact tQ.out.1; exact tQ.out.2) ?_))
    obtain ⟨W8, hW8, hs8⟩ := Sat.hide td.out
    rw [← hW8]
    clear hW8 td s0
    generalize w7.heap.size = bq at hs8 ⊢
    have tL := BO (bi (ai (cs := [hv7, wv7]) (hs8.blk 0 rfl)))
    have tj := BO (hs8.front 3 rfl)
    clear hs8
    go_upto_region 7 with (first | (refine ag rfl _ _ rfl _ _ rfl [_, _] tL.out ?_) | (refine bd rfl _ _ _ rfl aP b1 2 rfl [hv7, wv7] rfl [y0, y1, y2, y3, y4] tj.out (by kernel_rfl) (by simp) (by intro u hu; simp at hu; rcases hu with rfl | rfl; exact tQ.out.1; exact tQ.out.2) ?_; intro w9 hs9; have ti := BO (show Sat B D7 w9 (blk b1 #[y0, y1, hv7, wv7, y4] aP :: _) from hs9); clear hs9 tj))
    have wh := BO (aF (ti.out.blk 0 rfl))
    have s9 := BO (ti.out.front 3 rfl)
    clear ti
    go_wp2_with (first | (refine ag rfl _ _ rfl _ _ rfl [_, _, _, _, _] wh.out ?_) | (refine aq rfl _ _ _ rfl aP b2 rfl [y0, y1, hv7, wv7, y4] rfl cd s9.out (by kernel_rfl) rfl (by intro u hu; simp at hu; rcases hu with rfl | rfl | rfl | rfl | rfl; exact vh.out.ones.1; exact vh.out.ones.2.1; exact tQ.out.1; exact tQ.out.2; exact vh.out.ones.2.2) ?_; intro w11 hs11; have s6 := BO hs11; clear hs11 s9))
    refine bodyPost_ret (aL rfl _ _ rfl (aF (s6.out.blk 0 rfl))) rfl ?_
    rw [yi.out]
    have hw7 := vh.out.mono tq.out
    refine ⟨_, _, D7, rfl, tz.out.trans tq.out, DocW.d ⟨hw7.t, hw7.m, wg.out, hw7.r⟩, ?_⟩
    exact s6.out.drop.drop.drop.swap.drop
  · have tm := BO (aF (sY.out.blk 1 rfl))
    have tG := BO (ay (ai (sY.out.blk 0 rfl)))
    have wE := BO (jn o z HD.out xN.out hM sY.out)
    rw [vU.out] at wE
    go_upto_region 5 with (first | (refine ag rfl _ _ rfl _ _ rfl [_, _, _, _, _] tm.out ?_) | (refine ag rfl _ _ rfl _ _ rfl _ tG.out ?_) | (go_at_call 101; refine wE.out.mono ?_; rintro e5 w5 ⟨v5, D5, rfl, hle5, hd5, hs5⟩; obtain ⟨z0, z1, z2, z3, z4, rfl, h1⟩ := eW hd5; have tz := BO hle5; have xJ := BO (show DocD D5 _ d2 by rw [wo.out]; exact hd5); have H1 := BO h1; have sV := BO (hs5.front 1 rfl); clear hle5 hd5 h1 hs5 wE tm tG sY) | (refine aq rfl _ _ _ rfl aP b1 rfl [z0, z1, z2, z3, z4] rfl #[y0, y1, y2, y3, y4] sV.out (by kernel_rfl) rfl H1.out ?_; intro w6 hs6; have s0 := BO (hs6.front 2 rfl); clear hs6 sV))
    have vh := BO (kB xJ.out)
    obtain ⟨q0, q1, q2, q3, q4, qf⟩ := aZ (s0.out.blk 1 rfl)
    have hQ2 : d2.q.held.length + d2.q.waits.length ≤ 1000 := by rw [wo.out]; exact hQ
    have vi := BO (eU o vh.out.q hQ2 s0.out)
    go_upto_region 6 with (first | (go_at_call 98; refine vi.out.mono ?_; rintro e7 w7 ⟨v7, iv, D7, rfl, hle7, hq7, hs7⟩; obtain ⟨hv7, wv7, rfl, o7, p7⟩ := kS hq7; have tq := BO hle7; have wg := BO hq7; have tQ := BO (And.intro o7 p7); have td := BO (hs7.alloc #[hv7, wv7] tRq); clear hle7 hq7 o7 p7 hs7 vi q0 q1 q2 q3 q4 qf) | (refine ax rfl _ _ _ rfl [hv7, wv7] _ _ rfl rfl (by kernel_rfl) rfl (by intro u hu; simp at hu; rcases hu with rfl | rfl; exact tQ.out.1; exact tQ.out.2) ?_))
    obtain ⟨W8, hW8, hs8⟩ := Sat.hide td.out
    rw [← hW8]
    clear hW8 td s0
    generalize w7.heap.size = bq at hs8 ⊢
    have tL := BO (bi (ai (cs := [hv7, wv7]) (hs8.blk 0 rfl)))
    have tj := BO (hs8.front 3 rfl)
    clear hs8
    go_upto_region 7 with (first | (refine ag rfl _ _ rfl _ _ rfl [_, _] tL.out ?_) | (refine bd rfl _ _ _ rfl aP b1 2 rfl [hv7, wv7] rfl [z0, z1, z2, z3, z4] tj.out (by kernel_rfl) (by simp) (by intro u hu; simp at hu; rcases hu with rfl | rfl; exact tQ.out.1; exact tQ.out.2) ?_; intro w9 hs9; have ti := BO (show Sat B D7 w9 (blk b1 #[z0, z1, hv7, wv7, z4] aP :: _) from hs9); clear hs9 tj))
    have wh := BO (aF (ti.out.blk 0 rfl))
    have s9 := BO (ti.out.front 3 rfl)
    clear ti
    go_wp2_with (first | (refine ag rfl _ _ rfl _ _ rfl [_, _, _, _, _] wh.out ?_) | (refine aq rfl _ _ _ rfl aP b2 rfl [z0, z1, hv7, wv7, z4] rfl cd s9.out (by kernel_rfl) rfl (by intro u hu; simp at hu; rcases hu with rfl | rfl | rfl | rfl | rfl; exact vh.out.ones.1; exact vh.out.ones.2.1; exact tQ.out.1; exact tQ.out.2; exact vh.out.ones.2.2) ?_; intro w11 hs11; have s6 := BO hs11; clear hs11 s9))
    refine bodyPost_ret (aL rfl _ _ rfl (aF (s6.out.blk 0 rfl))) rfl ?_
    rw [yi.out]
    have hw7 := vh.out.mono tq.out
    refine ⟨_, _, D7, rfl, tz.out.trans tq.out, DocW.d ⟨hw7.t, hw7.m, wg.out, hw7.r⟩, ?_⟩
    exact s6.out.drop.drop.drop.swap.drop
  · have xJ := BO (show DocD D (.agg #[y0, y1, y2, y3, y4]) d2 by rw [wo.out]; exact HD.out)
    have tz := BO (PH.le.refl D)
    have s0 := BO (show Sat B D w4 (blk b2 cd aP :: blk b1 #[y0, y1, y2, y3, y4] aP :: blk bz z.cells.toArray tCl :: l) from (sY.out.front 1 rfl).front 2 rfl)
    clear sY
    go_upto_region 5 with fail
    have vh := BO (kB xJ.out)
    obtain ⟨q0, q1, q2, q3, q4, qf⟩ := aZ (s0.out.blk 1 rfl)
    have hQ2 : d2.q.held.length + d2.q.waits.length ≤ 1000 := by rw [wo.out]; exact hQ
    have vi := BO (eU o vh.out.q hQ2 s0.out)
    go_upto_region 6 with (first | (go_at_call 98; refine vi.out.mono ?_; rintro e7 w7 ⟨v7, iv, D7, rfl, hle7, hq7, hs7⟩; obtain ⟨hv7, wv7, rfl, o7, p7⟩ := kS hq7; have tq := BO hle7; have wg := BO hq7; have tQ := BO (And.intro o7 p7); have td := BO (hs7.alloc #[hv7, wv7] tRq); clear hle7 hq7 o7 p7 hs7 vi q0 q1 q2 q3 q4 qf) | (refine ax rfl _ _ _ rfl [hv7, wv7] _ _ rfl rfl (by kernel_rfl) rfl (by intro u hu; simp at hu; rcases hu with rfl | rfl; exact tQ.out.1; exact tQ.out.2) ?_))
    obtain ⟨W8, hW8, hs8⟩ := Sat.hide td.out
    rw [← hW8]
    clear hW8 td s0
    generalize w7.heap.size = bq at hs8 ⊢
    have tL := BO (bi (ai (cs := [hv7, wv7]) (hs8.blk 0 rfl)))
    have tj := BO (hs8.front 3 rfl)
    clear hs8
    go_upto_region 7 with (first | (refine ag rfl _ _ rfl _ _ rfl [_, _] tL.out ?_) | (refine bd rfl _ _ _ rfl aP b1 2 rfl [hv7, wv7] rfl [y0, y1, y2, y3, y4] tj.out (by kernel_rfl) (by simp) (by intro u hu; simp at hu; rcases hu with rfl | rfl; exact tQ.out.1; exact tQ.out.2) ?_; intro w9 hs9; have ti := BO (show Sat B D7 w9 (blk b1 #[y0, y1, hv7, wv7, y4] aP :: _) from hs9); clear hs9 tj))
    have wh := BO (aF (ti.out.blk 0 rfl))
    have s9 := BO (ti.out.front 3 rfl)
    clear ti
    go_wp2_with (first | (refine ag rfl _ _ rfl _ _ rfl [_, _, _, _, _] wh.out ?_) | (refine aq rfl _ _ _ rfl aP b2 rfl [y0, y1, hv7, wv7, y4] rfl cd s9.out (by kernel_rfl) rfl (by intro u hu; simp at hu; rcases hu with rfl | rfl | rfl | rfl | rfl; exact vh.out.ones.1; exact vh.out.ones.2.1; exact tQ.out.1; exact tQ.out.2; exact vh.out.ones.2.2) ?_; intro w11 hs11; have s6 := BO hs11; clear hs11 s9))
    refine bodyPost_ret (aL rfl _ _ rfl (aF (s6.out.blk 0 rfl))) rfl ?_
    rw [yi.out]
    have hw7 := vh.out.mono tq.out
    refine ⟨_, _, D7, rfl, tz.out.trans tq.out, DocW.d ⟨hw7.t, hw7.m, wg.out, hw7.r⟩, ?_⟩
    exact s6.out.drop.drop.drop.swap.drop
theorem sB {B w : World} {D : PH} {l : List HP} {v : Value} {d : DocM} (o : Int) (hd : DocD D v d) (hM : d.r.length ≤ 1000) (hQ : d.q.held.length + d.q.waits.length ≤ 1000) (s : Sat B D w l) :
    Calls Tryz.prog 59 #[v, .int .i64 o] w (g3 B D l (iq d o).1 (iq d o).2) := by
  obtain ⟨i0, hi, hz0, hz1, hz2⟩ := info_parts iC
  have HI := BO (And.intro hi (And.intro hz0 (And.intro hz1 hz2)))
  obtain ⟨i1, gi, gz0, gz1, gz2⟩ := info_parts jA
  have uY := BO (And.intro gi (And.intro gz0 (And.intro gz1 gz2)))
  obtain ⟨y0, y1, y2, y3, y4, rfl, _⟩ := eW hd
  have hdw := kB hd
  obtain ⟨es, hr, hrr⟩ := hdw.r
  have hel : es.length ≤ 1000 := by rw [← List.length_map (f := hJ), hrr]; exact hM
  obtain ⟨ra, rc, rfl⟩ := hr.1.shape
  obtain ⟨N, hN⟩ : ∃ N, es.length = N := ⟨_, rfl⟩
  have HN := BO hN
  rw [hN] at hr hel hdw ⊢
  obtain ⟨W1, hW1, hs1⟩ := cy s #[y0, y1, y2, y3, .slice ra N rc] cd aP aP
  have sR := BO hW1
  have sS := BO hs1
  have tm := BO (eU o hdw.q hQ hs1)
  have hgv := iu (R := RC) d.q o
  have hln := kj (R := RC) d.q o
  obtain ⟨q0, q1, q2, q3, q4, qf⟩ := aZ (hs1.blk 0 rfl)
  have vj := BO hdw
  have HR := BO hr
  have wE := BO (show (es.filter (fun e => decide (e.o ≠ o))).map hJ = kY d.r o by unfold kY; rw [← hrr, List.filter_map]; rfl)
  obtain ⟨Q1, hQ1⟩ : ∃ Q1, Q1 = bj RC d.q o := ⟨_, rfl⟩
  have A7 := BO (show iq d o = (⟨d.ts, d.room, (a8 RC Q1.1 (ofE o)).1, kY d.r o⟩, Q1.2 ++ (a8 RC Q1.1 (ofE o)).2) by unfold iq; rw [hQ1])
  rw [← hQ1] at tm hgv hln
  have hgd := jp (R := RC) Q1.1 (ofE o)
  clear s hs1 hW1 hd hdw hr hrr hN hQ1 hi hz0 hz1 hz2 gi gz0 gz1 gz2
  go_enter Tryz.func59, Tryz.ntmps59
  go_upto_region 1 with fail
  rw [← sR.out]
  clear sR
  generalize w.heap.size + 1 = b2 at *
  generalize w.heap.size = b1 at *
  go_upto_region 2 with (first | (go_at_call 98; refine tm.out.mono ?_; rintro e7 w7 ⟨v7, iv, D7, rfl, hle7, hq7, hs7⟩; obtain ⟨hv7, wv7, rfl, o7, p7⟩ := kS hq7; have tq := BO hle7; have wg := BO hq7; have tQ := BO (And.intro o7 p7); have td := BO (hs7.alloc #[hv7, wv7] tRq); clear hle7 hq7 o7 p7 hs7 tm sS q0 q1 q2 q3 q4 qf) | (refine ax rfl _ _ _ rfl [hv7, wv7] _ _ rfl rfl (by kernel_rfl) rfl (by intro u hu; simp at hu; rcases hu with rfl | rfl; exact tQ.out.1; exact tQ.out.2) ?_))
  obtain ⟨W8, hW8, hs8⟩ := Sat.hide td.out
  rw [← hW8]
  clear hW8 td
  generalize w7.heap.size = bq at hs8 ⊢
  have tL := BO (bi (ai (cs := [hv7, wv7]) (hs8.blk 0 rfl)))
  have uj := BO (oH o wg.out (Nat.le_trans hln hQ) hs8)
  clear hs8
  go_upto_region 3 with (first | (refine ag rfl _ _ rfl _ _ rfl [_, _] tL.out ?_) | (go_at_call 99; refine uj.out.mono ?_; rintro e9 w9 ⟨v9, iv9, D9, rfl, hle9, hq9, hs9⟩; obtain ⟨hv9, wv9, rfl, o9, p9⟩ := kS hq9; have uB := BO (tq.out.trans hle9); have vX := BO hq9; have yX := BO (And.intro o9 p9); have ti := BO (hs9.alloc #[hv9, wv9] tRq); clear hle9 hq9 o9 p9 hs9 uj tL) | (refine ax rfl _ _ _ rfl [hv9, wv9] _ _ rfl rfl (by kernel_rfl) rfl (by intro u hu; simp at hu; rcases hu with rfl | rfl; exact yX.out.1; exact yX.out.2) ?_))
  obtain ⟨W10, hW10, hs10⟩ := Sat.hide ti.out
  rw [← hW10]
  clear hW10 ti
  generalize w9.heap.size = bq2 at hs10 ⊢
  have zB := BO (bi (ai (cs := [hv9, wv9]) (hs10.blk 0 rfl)))
  have s9 := BO (hs10.front 4 rfl)
  clear hs10
  go_upto_region 4 with (first | (refine ag rfl _ _ rfl _ _ rfl [_, _] zB.out ?_) | (refine bd rfl _ _ _ rfl aP b1 2 rfl [hv9, wv9] rfl [y0, y1, y2, y3, .slice ra N rc] s9.out (by kernel_rfl) (by simp) (by intro u hu; simp at hu; rcases hu with rfl | rfl; exact yX.out.1; exact yX.out.2) ?_; intro w11 hs11; have s6 := BO (show Sat B D9 w11 (blk b1 #[y0, y1, hv9, wv9, .slice ra N rc] aP :: _) from hs11); clear hs11 s9))
  obtain ⟨va9, vc9, rfl⟩ := (s6.out.front 2 rfl).own_shape
  have tT := BO (show Sat B D9 w11 (aJ 3 1 iv Q1.2.length (Q1.2.map (Value.int .i64)) :: aJ 3 1 (.slice va9 (a8 RC Q1.1 (ofE o)).2.length vc9) (a8 RC Q1.1 (ofE o)).2.length ((a8 RC Q1.1 (ofE o)).2.map (Value.int .i64)) :: blk b1 #[y0, y1, hv9, wv9, .slice ra N rc] aP :: blk bq2 #[hv9, wv9] tRq :: blk bq #[hv7, wv7] tRq :: blk b2 cd aP :: l) from (s6.out.front 2 rfl).front 4 rfl)
  have s5 := BO (tT.out.own 1 rfl).rd
  clear s6 zB
  have hQw : Q1.1.waits.length ≤ 1000 := by omega
  go_upto_region 5 with (at_builtin; refine ar _ rfl _ _ 42 rfl 3 i1 _ 1 8 Tryz.underlying42 uY.out.1 uY.out.2.1 uY.out.2.2.1 uY.out.2.2.2 rfl _ Q1.2.length _ rfl tT.out _ (a8 RC Q1.1 (ofE o)).2.length _ rfl s5.out (by intro u hu; obtain ⟨x, _, rfl⟩ := List.mem_map.1 hu; rfl) (by unfold maxLen; omega) (by omega) ?_; intro v13 w13 hs13 h13; have tH := BO hs13; clear hs13 h13 tT s5)
  have ub := BO (show Sat B D9 w13 (gS (.slice none 0 0) [] :: blk b1 #[y0, y1, hv9, wv9, .slice ra N rc] aP :: cq v13 (Q1.2 ++ (a8 RC Q1.1 (ofE o)).2) :: blk b2 cd aP :: l) from by
    have h1 := (((tH.out.front 1 rfl).drop).rm2.rm2.front 1 rfl)
    have h2 : Sat B D9 w13 (blk b1 #[y0, y1, hv9, wv9, .slice ra N rc] aP :: aJ 3 1 v13 (Q1.2.length + (a8 RC Q1.1 (ofE o)).2.length) (Q1.2.map (Value.int .i64) ++ (a8 RC Q1.1 (ofE o)).2.map (Value.int .i64)) :: blk b2 cd aP :: l) := h1
    rw [← List.map_append, ← List.length_append] at h2
    exact h2.own_nil bY 19)
  obtain ⟨gva, hgva⟩ : ∃ g, g = Q1.2 ++ (a8 RC Q1.1 (ofE o)).2 := ⟨_, rfl⟩
  rw [← hgva] at ub A7
  clear tH hgva
  go_wp2_with fail
  go_loopw [10, 11] (fun ot i wr => ∃ (j : Nat) (oa : Option Addr) (oc : Nat) (zs : List ReaE), i = .int .i64 j ∧ ot = .slice oa zs.length oc ∧ j ≤ N ∧ zs = (es.take j).filter (fun e => decide (e.o ≠ o)) ∧ Sat B D9 wr (gS (.slice oa zs.length oc) zs :: blk b1 #[y0, y1, hv9, wv9, .slice ra N rc] aP :: cq v13 gva :: blk b2 cd aP :: l)) (fun _ i _ => N - (intOf i).toNat)
  case atStart => exact ⟨0, none, 0, [], rfl, rfl, by omega, rfl, ub.out⟩
  case round =>
    obtain ⟨j, oa, oc, zs, rfl, rfl, hj, hzs, hs3⟩ := hrel
    have hle : zs.length ≤ j := by rw [hzs]; exact Nat.le_trans (List.length_filter_le _ _) (by rw [List.length_take]; omega)
    have tY := BO hzs
    have sU := BO hs3
    clear hzs hs3 ub
    obtain ⟨q0, q1, q2, q3, q4, qf⟩ := aZ (sU.out.blk 1 rfl)
    by_cases hlt : j < N
    · have hii : (j : Int) < (N : Int) := by omega
      obtain ⟨x, hx⟩ : ∃ x, es[j]? = some x := ⟨es[j]'(by rw [HN.out]; exact hlt), List.getElem?_eq_getElem _⟩
      obtain ⟨g, og, rfl, hrng⟩ := aD dg (by have := (HR.out.mono uB.out).1.rd sU.out; rw [HN.out] at this; exact this) hx HN.out
      have y0' := (i7 hrng).2.1
      have HL := BO (jj hrng)
      have HX := BO hx
      clear hx hrng
      by_cases ho : x.o = o
      · have hne : (x.o != o) = false := by simpa using ho
        have HT := BO (aQ (q := fun e : ReaE => decide (e.o ≠ o)) HX.out (by simp [ho]))
        clear ho HL
        go_wp2_with fail
        go_roundw
        case rel => exact ⟨j + 1, oa, oc, zs, by go_num, rfl, by omega, by rw [HT.out]; exact tY.out, sU.out⟩
        case measure => simp [intOf]; omega
      · have hne : (x.o != o) = true := by simpa using ho
        have HT := BO (aO (q := fun e : ReaE => decide (e.o ≠ o)) HX.out (by simp [ho]))
        have sV := BO ((sU.out.alloc (aX x).toArray bY).front 1 rfl)
        have s5 := BO (aT (size := 19) (n := 1) (sV.out.blk 1 rfl) (by simp [dg]) (by unfold maxLen; omega))
        clear sU ho
        go_wp2_with (first | (refine ag rfl _ _ rfl _ _ rfl _ HL.out ?_) | (refine aC rfl _ _ rfl bY i0 _ (aX x) rfl Tryz.underlying59 HI.out.1 HI.out.2.1 (HI.out.2.2.1.trans rfl) (by rw [dg]; decide) (by rw [dg]; decide) ?_) | (at_builtin; refine ar _ rfl _ _ fy rfl bY i0 _ 19 208 Tryz.underlying59 HI.out.1 HI.out.2.1 HI.out.2.2.1 HI.out.2.2.2 rfl _ zs.length _ rfl sV.out _ 1 _ rfl s5.out (by simpa using ju x) (by unfold maxLen; omega) (by omega) ?_; intro v15 w15 hs15 h15; obtain ⟨va, vc, rfl⟩ := hs15.own_shape; have tP := BO hs15; clear hs15 h15 sV s5 HL))
        go_roundw
        case rel =>
          refine ⟨j + 1, va, vc, zs ++ [x], by go_num, by rw [List.length_append]; rfl, by omega, by rw [HT.out, tY.out], ?_⟩
          show Sat B D9 w15 (aJ bY 19 (.slice va (zs ++ [x]).length vc) (zs ++ [x]).length ((zs ++ [x]).flatMap aX) :: _)
          rw [List.length_append, List.flatMap_append]
          have h9 := (tP.out.front 1 rfl).drop
          simpa using h9
        case measure => simp [intOf]; omega
    · have hji : ¬ ((j : Int) < (N : Int)) := by omega
      have HT := BO (show zs = es.filter (fun e => decide (e.o ≠ o)) by rw [tY.out, List.take_of_length_le (by rw [HN.out]; omega)])
      have sY := BO (Sat.set5e (sU.out.front 1 rfl) (.slice oa zs.length oc))
      go_upto_region 12 with fail
      obtain ⟨W8, hW8, hs8⟩ := Sat.hide sY.out
      rw [← hW8]
      clear hW8 sY sU q0 q1 q2 q3 q4 qf
      obtain ⟨D2, hle2, hE2, hs9⟩ := eO (hs8.front 1 rfl) (fun e he => by rw [tY.out] at he; exact (HR.out.2 e (List.mem_of_mem_take (List.mem_filter.1 he).1)).mono uB.out)
      have tm := BO (aF (hs9.blk 0 rfl))
      have ti := BO (hs9.front 2 rfl)
      have tr := BO hle2
      have vk := BO hE2
      clear hs8 hs9 hE2 hle2
      go_wp2_with (first | (refine ag rfl _ _ rfl _ _ rfl [_, _, _, _, _] tm.out ?_) | (refine aq rfl _ _ _ rfl aP b2 rfl [y0, y1, hv9, wv9, .slice oa zs.length oc] rfl cd ti.out (by kernel_rfl) rfl (by intro u hu; simp at hu; rcases hu with rfl | rfl | rfl | rfl | rfl; exact vj.out.ones.1; exact vj.out.ones.2.1; exact yX.out.1; exact yX.out.2; rfl) ?_; intro w20 hs20; have te := BO hs20; clear hs20 ti))
      refine bodyPost_ret (aL rfl _ _ rfl (aF (te.out.blk 0 rfl))) rfl ?_
      rw [A7.out]
      have hw7 := (vj.out.mono uB.out).mono tr.out
      exact ⟨_, _, D2, rfl, uB.out.trans tr.out, DocW.d ⟨hw7.t, hw7.m, vX.out.mono tr.out, ⟨zs, vk.out, by rw [HT.out]; exact wE.out⟩⟩, te.out.drop.drop⟩
end Go.Proofs.YtgljdkjepdknnaaGreatDoor
