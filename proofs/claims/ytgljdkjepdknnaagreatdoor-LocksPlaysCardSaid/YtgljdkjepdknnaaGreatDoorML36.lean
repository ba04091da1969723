/- Joined texts: The document's locks: ending what is held to the statement's end, by a cursor; ending to wait; the end (ratlineref11). (printed by genrk4.py) The document's locks: ending to wait; the end (ratlineref11.Locks.Leave, End). (printed by genrk5.py) -/
import Derived.Test.YtgljdkjepdknnaaGreatDoorML35
import Derived.Test.YtgljdkjepdknnaaGreatDoorML33
import Derived.Test.YtgljdkjepdknnaaGreatDoorML28
set_option maxHeartbeats 64000000
namespace Go.Proofs.YtgljdkjepdknnaaGreatDoor
open Go.ChangeShapes Go.WideShapes Go.ChangeAt Go.RowKit
set_option maxRecDepth 100000
set_option linter.unusedSimpArgs false
theorem eY {D : PH} {v : Value} {d : DocM} (h : DocD D v d) : ∃ y0 y1 y2 y3 y4, v = .agg #[y0, y1, y2, y3, y4] ∧ ∀ u ∈ [y0, y1, y2, y3, y4], u.oneCell' = true := by
  obtain ⟨tv, hv, wv, rv, es, rfl, ⟨_, _, _, ht, _⟩, ⟨hv', wv', _, _, hq, hh, hw, _, _⟩, hr, _⟩ := h
  obtain ⟨rfl, rfl⟩ : hv = hv' ∧ wv = wv' := by simpa using hq
  refine ⟨_, _, _, _, _, rfl, fun u hu => ?_⟩
  simp at hu
  rcases hu with rfl | rfl | rfl | rfl | rfl
  · exact ht.oneV
  · rfl
  · exact hh.1.oneV
  · exact hw.1.oneV
  · exact hr.1.oneV
theorem m4 {B w : World} {D : PH} {l : List HP} {v : Value} {d : DocM} (o : Int) (hd : DocD D v d) (hM : d.r.length ≤ 1000) (hQ : d.q.held.length + d.q.waits.length ≤ 1000) (s : Sat B D w l) :
    Calls Tryz.prog 57 #[v, .int .i64 o] w (iN B D l (ej d o 1 0).1 (ej d o 1 0).2) := by
  obtain ⟨y0, y1, y2, y3, y4, rfl, _⟩ := eY hd
  obtain ⟨W1, hW1, hs1⟩ := cG s #[y0, y1, y2, y3, y4] cp aQ aQ
  have uW := Eh hW1
  have uX := Eh hs1
  have vx := Eh (aG (hs1.blk 0 rfl))
  have yI := Eh (lA o 1 0 hd hM hQ hs1)
  clear s hs1 hW1 hd
  go_enter Tryz.func57, Tryz.ntmps57
  go_upto_region 1 with fail
  rw [← uW.out]
  clear uW
  generalize w.heap.size + 1 = b2 at *
  generalize w.heap.size = b1 at *
  go_wp2_with (first | (refine ai rfl _ _ rfl _ _ rfl [_, _, _, _, _] vx.out ?_) | (go_at_call 97; refine yI.out.mono ?_; rintro e2 w2 ⟨v2, iv, D2, rfl, hle, hd2, hs2⟩; obtain ⟨z0, z1, z2, z3, z4, rfl, h1⟩ := eY hd2; have vz := Eh hle; have yU := Eh hd2; have H1 := Eh h1; have vg := Eh (hs2.front 2 rfl); clear hle hd2 h1 hs2 yI vx uX) | (refine ap rfl _ _ _ rfl aQ b2 rfl [z0, z1, z2, z3, z4] rfl cp vg.out (by kernel_rfl) rfl H1.out ?_; intro w3 hs3; have uY := Eh hs3; clear hs3 vg))
  refine bodyPost_ret (aL rfl _ _ rfl (aG (uY.out.blk 0 rfl))) rfl ?_
  exact ⟨_, _, D2, rfl, vz.out, yU.out, (uY.out.drop.swap.drop)⟩
theorem px {B w : World} {D : PH} {l : List HP} {v : Value} {d : DocM} (o hand : Int) (h1 : ¬ hand < 1) (h2 : ¬ 2 < hand) (hd : DocD D v d) (hM : d.r.length ≤ 1000) (hQ : d.q.held.length + d.q.waits.length ≤ 1000) (s : Sat B D w l) :
    Calls Tryz.prog 58 #[v, .int .i64 o, .int .i64 hand] w (iN B D l (ej d o 2 hand).1 (ej d o 2 hand).2) := by
  obtain ⟨y0, y1, y2, y3, y4, rfl, _⟩ := eY hd
  obtain ⟨W1, hW1, hs1⟩ := cG s #[y0, y1, y2, y3, y4] cp aQ aQ
  have uW := Eh hW1
  have uX := Eh hs1
  have vx := Eh (aG (hs1.blk 0 rfl))
  have yI := Eh (lA o 2 hand hd hM hQ hs1)
  clear s hs1 hW1 hd
  go_enter Tryz.func58, Tryz.ntmps58
  go_upto_region 1 with fail
  rw [← uW.out]
  clear uW
  generalize w.heap.size + 1 = b2 at *
  generalize w.heap.size = b1 at *
  go_wp2_with (first | (refine ai rfl _ _ rfl _ _ rfl [_, _, _, _, _] vx.out ?_) | (go_at_call 97; refine yI.out.mono ?_; rintro e2 w2 ⟨v2, iv, D2, rfl, hle, hd2, hs2⟩; obtain ⟨z0, z1, z2, z3, z4, rfl, h1⟩ := eY hd2; have vz := Eh hle; have yU := Eh hd2; have H1 := Eh h1; have vg := Eh (hs2.front 2 rfl); clear hle hd2 h1 hs2 yI vx uX) | (refine ap rfl _ _ _ rfl aQ b2 rfl [z0, z1, z2, z3, z4] rfl cp vg.out (by kernel_rfl) rfl H1.out ?_; intro w3 hs3; have uY := Eh hs3; clear hs3 vg))
  refine bodyPost_ret (aL rfl _ _ rfl (aG (uY.out.blk 0 rfl))) rfl ?_
  exact ⟨_, _, D2, rfl, vz.out, yU.out, (uY.out.drop.swap.drop)⟩
theorem oU {B w : World} {D : PH} {l : List HP} {v : Value} {d : DocM} (o hand : Int) (h1 : hand < 1 ∨ 2 < hand) (hd : DocD D v d) (hM : d.r.length ≤ 1000) (hQ : d.q.held.length + d.q.waits.length ≤ 1000) (s : Sat B D w l) :
    Calls Tryz.prog 58 #[v, .int .i64 o, .int .i64 hand] w (iN B D l (ej d o 0 0).1 (ej d o 0 0).2) := by
  obtain ⟨y0, y1, y2, y3, y4, rfl, _⟩ := eY hd
  obtain ⟨W1, hW1, hs1⟩ := cG s #[y0, y1, y2, y3, y4] cp aQ aQ
  have uW := Eh hW1
  have uX := Eh hs1
  have vx := Eh (aG (hs1.blk 0 rfl))
  have yI := Eh (lA o 0 0 hd hM hQ hs1)
  clear s hs1 hW1 hd
  go_enter Tryz.func58, Tryz.ntmps58
  go_upto_region 1 with fail
  rw [← uW.out]
  clear uW
  generalize w.heap.size + 1 = b2 at *
  generalize w.heap.size = b1 at *
  have h3 : hand < 1 ∨ (¬ hand < 1 ∧ hand > 2) := by omega
  clear h1
  rcases h3 with h1 | ⟨h1, h2⟩
  all_goals
   go_wp2_with (first | (refine ai rfl _ _ rfl _ _ rfl [_, _, _, _, _] vx.out ?_) | (go_at_call 97; refine yI.out.mono ?_; rintro e2 w2 ⟨v2, iv, D2, rfl, hle, hd2, hs2⟩; obtain ⟨z0, z1, z2, z3, z4, rfl, h1⟩ := eY hd2; have vz := Eh hle; have yU := Eh hd2; have H1 := Eh h1; have vg := Eh (hs2.front 2 rfl); clear hle hd2 h1 hs2 yI vx uX) | (refine ap rfl _ _ _ rfl aQ b2 rfl [z0, z1, z2, z3, z4] rfl cp vg.out (by kernel_rfl) rfl H1.out ?_; intro w3 hs3; have uY := Eh hs3; clear hs3 vg))
   refine bodyPost_ret (aL rfl _ _ rfl (aG (uY.out.blk 0 rfl))) rfl ?_
   exact ⟨_, _, D2, rfl, vz.out, yU.out, (uY.out.drop.swap.drop)⟩
structure DocW (D : PH) (y0 y1 y2 y3 y4 : Value) (d : DocM) : Prop where
  t : TblsAt D y0 d.ts
  m : y1 = .int .i64 d.room
  q : QueD D (.agg #[y2, y3]) d.q
  r : ∃ es, ReasD D y4 es ∧ es.map iM = d.r
theorem kt {D : PH} {y0 y1 y2 y3 y4 : Value} {d : DocM} (h : DocD D (.agg #[y0, y1, y2, y3, y4]) d) : DocW D y0 y1 y2 y3 y4 d := by
  obtain ⟨tv, hv, wv, rv, es, he, ht, hq, hr, hrr⟩ := h
  simp only [Value.agg.injEq, Array.mk.injEq, List.cons.injEq, and_true] at he
  obtain ⟨rfl, h1, rfl, rfl, rfl⟩ := he
  exact ⟨ht, h1, hq, es, hr, hrr⟩
theorem DocW.d {D : PH} {y0 y1 y2 y3 y4 : Value} {d : DocM} (h : DocW D y0 y1 y2 y3 y4 d) : DocD D (.agg #[y0, y1, y2, y3, y4]) d := by
  obtain ⟨ht, rfl, hq, es, hr, hrr⟩ := h
  exact ⟨_, _, _, _, es, rfl, ht, hq, hr, hrr⟩
theorem DocW.mono {D D' : PH} {y0 y1 y2 y3 y4 : Value} {d : DocM} (h : DocW D y0 y1 y2 y3 y4 d) (le : PH.le D D') : DocW D' y0 y1 y2 y3 y4 d := by
  obtain ⟨ht, h1, hq, es, hr, hrr⟩ := h
  exact ⟨ht.mono le, h1, hq.mono le, es, hr.mono le, hrr⟩
theorem DocW.ones {D : PH} {y0 y1 y2 y3 y4 : Value} {d : DocM} (h : DocW D y0 y1 y2 y3 y4 d) : y0.oneCell' = true ∧ y1.oneCell' = true ∧ y4.oneCell' = true := by
  obtain ⟨⟨_, _, _, ht, _⟩, rfl, _, es, hr, _⟩ := h
  exact ⟨ht.oneV, rfl, hr.1.oneV⟩
theorem lT {D : PH} {v : Value} {Q : Qm Clm} (h : QueD D v Q) : ∃ y z, v = .agg #[y, z] ∧ y.oneCell' = true ∧ z.oneCell' = true := by
  obtain ⟨hv, wv, _, _, rfl, hh, hw, _, _⟩ := h
  exact ⟨hv, wv, rfl, hh.1.oneV, hw.1.oneV⟩
noncomputable def eu (d : DocM) (o : Int) : DocM × List Int :=
  (⟨d.ts, d.room, (bu RC d.q o).1, if (aP d.q o).2 && !(aN d.q o).any (fun h => RC.same h (aP d.q o).1) then bL d.r o (aP d.q o).1 else d.r⟩, (bu RC d.q o).2)
noncomputable def jj (d : DocM) (o : Int) : DocM × List Int :=
  (⟨d.ts, d.room, (aY RC (bu RC d.q o).1 (ofE o)).1, l3 d.r o⟩, (bu RC d.q o).2 ++ (aY RC (bu RC d.q o).1 (ofE o)).2)
theorem pJ {B w : World} {D : PH} {l : List HP} {v : Value} {d : DocM} (o : Int) (hd : DocD D v d) (hM : d.r.length ≤ 1000) (hQ : d.q.held.length + d.q.waits.length ≤ 1000) (s : Sat B D w l) :
    Calls Tryz.prog 60 #[v, .int .i64 o] w (iN B D l (eu d o).1 (eu d o).2) := by
  obtain ⟨y0, y1, y2, y3, y4, rfl, _⟩ := eY hd
  have hdw := kt hd
  obtain ⟨W1, hW1, hs1⟩ := cG s #[y0, y1, y2, y3, y4] cp aQ aQ
  have uW := Eh hW1
  have uX := Eh hs1
  have xg := Eh (eq o hdw.q hs1)
  obtain ⟨q0, q1, q2, q3, q4, qf⟩ := aT (hs1.blk 0 rfl)
  have HD := Eh hd
  clear s hs1 hW1 hd hdw
  go_enter Tryz.func60, Tryz.ntmps60
  go_upto_region 1 with fail
  rw [← uW.out]
  clear uW
  generalize w.heap.size + 1 = b2 at *
  generalize w.heap.size = b1 at *
  go_upto_region 2 with (first | (go_at_call 32; refine xg.out.mono ?_; rintro e1 w1 ⟨z, rfl, hzc, hzo, _, hs2⟩; have yk := Eh hzc; have yH := Eh hzo; have vg := Eh (hs2.alloc z.cells.toArray tCl); clear hzc hzo hs2 xg uX q0 q1 q2 q3 q4 qf) | (refine ax rfl _ _ _ rfl z.cells _ _ rfl rfl (by kernel_rfl) rfl (ClmE.one z) ?_))
  obtain ⟨W3, hW3, hs3⟩ := Sat.hide vg.out
  rw [← hW3]
  clear hW3 vg
  generalize w1.heap.size = bz at hs3 ⊢
  have vx := Eh (aG (hs3.blk 1 rfl))
  have vX := Eh (az (ak (hs3.blk 0 rfl)))
  have A0 := Eh (rD o z HD.out yH.out (by omega) hs3)
  rw [yk.out] at A0
  clear hs3
  go_upto_region 3 with (first | (refine ai rfl _ _ rfl _ _ rfl [_, _, _, _, _] vx.out ?_) | (refine ai rfl _ _ rfl _ _ rfl _ vX.out ?_) | (go_at_call 100; refine A0.out.mono ?_; rintro e4 w4 ⟨rfl, hs4⟩; have vh := Eh hs4; clear hs4 A0 vx vX))
  obtain ⟨wb, hwb⟩ : ∃ wb, wb = (aP d.q o).2 := ⟨_, rfl⟩
  obtain ⟨hb, hhb⟩ : ∃ hb, hb = (aN d.q o).any (fun h => RC.same h (aP d.q o).1) := ⟨_, rfl⟩
  rw [← hwb, ← hhb]
  obtain ⟨d2, hd2⟩ : ∃ d2 : DocM, d2 = ⟨d.ts, d.room, d.q, if wb && !hb then bL d.r o (aP d.q o).1 else d.r⟩ := ⟨_, rfl⟩
  have yU := Eh hd2
  have zJ := Eh (show eu d o = (⟨d2.ts, d2.room, (bu RC d2.q o).1, d2.r⟩, (bu RC d2.q o).2) by unfold eu; rw [hd2, ← hwb, ← hhb])
  clear hwb hhb hd2
  cases wb <;> cases hb
  · have A1 := Eh (show DocD D (.agg #[y0, y1, y2, y3, y4]) d2 by rw [yU.out]; exact HD.out)
    have vC := Eh (PH.le.refl D)
    have vi := Eh (show Sat B D w4 (blk b2 cp aQ :: blk b1 #[y0, y1, y2, y3, y4] aQ :: blk bz z.cells.toArray tCl :: l) from (vh.out.front 1 rfl).front 2 rfl)
    clear vh
    go_upto_region 5 with fail
    have xO := Eh (kt A1.out)
    obtain ⟨q0, q1, q2, q3, q4, qf⟩ := aT (vi.out.blk 1 rfl)
    have hQ2 : d2.q.held.length + d2.q.waits.length ≤ 1000 := by rw [yU.out]; exact hQ
    have xP := Eh (fz o xO.out.q hQ2 vi.out)
    go_upto_region 6 with (first | (go_at_call 98; refine xP.out.mono ?_; rintro e7 w7 ⟨v7, iv, D7, rfl, hle7, hq7, hs7⟩; obtain ⟨hv7, wv7, rfl, o7, p7⟩ := lT hq7; have vB := Eh hle7; have yK := Eh hq7; have wj := Eh (And.intro o7 p7); have vn := Eh (hs7.alloc #[hv7, wv7] tRq); clear hle7 hq7 o7 p7 hs7 xP q0 q1 q2 q3 q4 qf) | (refine ax rfl _ _ _ rfl [hv7, wv7] _ _ rfl rfl (by kernel_rfl) rfl (by intro u hu; simp at hu; rcases hu with rfl | rfl; exact wj.out.1; exact wj.out.2) ?_))
    obtain ⟨W8, hW8, hs8⟩ := Sat.hide vn.out
    rw [← hW8]
    clear hW8 vn vi
    generalize w7.heap.size = bq at hs8 ⊢
    have vU := Eh (bv (ak (cs := [hv7, wv7]) (hs8.blk 0 rfl)))
    have vw := Eh (hs8.front 3 rfl)
    clear hs8
    go_upto_region 7 with (first | (refine ai rfl _ _ rfl _ _ rfl [_, _] vU.out ?_) | (refine bm rfl _ _ _ rfl aQ b1 2 rfl [hv7, wv7] rfl [y0, y1, y2, y3, y4] vw.out (by kernel_rfl) (by simp) (by intro u hu; simp at hu; rcases hu with rfl | rfl; exact wj.out.1; exact wj.out.2) ?_; intro w9 hs9; have vu := Eh (show Sat B D7 w9 (blk b1 #[y0, y1, hv7, wv7, y4] aQ :: _) from hs9); clear hs9 vw))
    have yL := Eh (aG (vu.out.blk 0 rfl))
    have vo := Eh (vu.out.front 3 rfl)
    clear vu
    go_wp2_with (first | (refine ai rfl _ _ rfl _ _ rfl [_, _, _, _, _] yL.out ?_) | (refine ap rfl _ _ _ rfl aQ b2 rfl [y0, y1, hv7, wv7, y4] rfl cp vo.out (by kernel_rfl) rfl (by intro u hu; simp at hu; rcases hu with rfl | rfl | rfl | rfl | rfl; exact xO.out.ones.1; exact xO.out.ones.2.1; exact wj.out.1; exact wj.out.2; exact xO.out.ones.2.2) ?_; intro w11 hs11; have vl := Eh hs11; clear hs11 vo))
    refine bodyPost_ret (aL rfl _ _ rfl (aG (vl.out.blk 0 rfl))) rfl ?_
    rw [zJ.out]
    have hw7 := xO.out.mono vB.out
    refine ⟨_, _, D7, rfl, vC.out.trans vB.out, DocW.d ⟨hw7.t, hw7.m, yK.out, hw7.r⟩, ?_⟩
    exact vl.out.drop.drop.drop.swap.drop
  · have A1 := Eh (show DocD D (.agg #[y0, y1, y2, y3, y4]) d2 by rw [yU.out]; exact HD.out)
    have vC := Eh (PH.le.refl D)
    have vi := Eh (show Sat B D w4 (blk b2 cp aQ :: blk b1 #[y0, y1, y2, y3, y4] aQ :: blk bz z.cells.toArray tCl :: l) from (vh.out.front 1 rfl).front 2 rfl)
    clear vh
    go_upto_region 5 with fail
    have xO := Eh (kt A1.out)
    obtain ⟨q0, q1, q2, q3, q4, qf⟩ := aT (vi.out.blk 1 rfl)
    have hQ2 : d2.q.held.length + d2.q.waits.length ≤ 1000 := by rw [yU.out]; exact hQ
    have xP := Eh (fz o xO.out.q hQ2 vi.out)
    go_upto_region 6 with (first | (go_at_call 98; refine xP.out.mono ?_; rintro e7 w7 ⟨v7, iv, D7, rfl, hle7, hq7, hs7⟩; obtain ⟨hv7, wv7, rfl, o7, p7⟩ := lT hq7; have vB := Eh hle7; have yK := Eh hq7; have wj := Eh (And.intro o7 p7); have vn := Eh (hs7.alloc #[hv7, wv7] tRq); clear hle7 hq7 o7 p7 hs7 xP q0 q1 q2 q3 q4 qf) | (refine ax rfl _ _ _ rfl [hv7, wv7] _ _ rfl rfl (by kernel_rfl) rfl (by intro u hu; simp at hu; rcases hu with rfl | rfl; exact wj.out.1; exact wj.out.2) ?_))
    obtain ⟨W8, hW8, hs8⟩ := Sat.hide vn.out
    rw [← hW8]
    clear hW8 vn vi
    generalize w7.heap.size = bq at hs8 ⊢
    have vU := Eh (bv (ak (cs := [hv7, wv7]) (hs8.blk 0 rfl)))
    have vw := Eh (hs8.front 3 rfl)
    clear hs8
    go_upto_region 7 with (first | (refine ai rfl _ _ rfl _ _ rfl [_, _] vU.out ?_) | (refine bm rfl _ _ _ rfl aQ b1 2 rfl [hv7, wv7] rfl [y0, y1, y2, y3, y4] vw.out (by kernel_rfl) (by simp) (by intro u hu; simp at hu; rcases hu with rfl | rfl; exact wj.out.1; exact wj.out.2) ?_; intro w9 hs9; have vu := Eh (show Sat B D7 w9 (blk b1 #[y0, y1, hv7, wv7, y4] aQ :: _) from hs9); clear hs9 vw))
    have yL := Eh (aG (vu.out.blk 0 rfl))
    have vo := Eh (vu.out.front 3 rfl)
    clear vu
    go_wp2_with (first | (refine ai rfl _ _ rfl _ _ rfl [_, _, _, _, _] yL.out ?_) | (refine ap rfl _ _ _ rfl aQ b2 rfl [y0, y1, hv7, wv7, y4] rfl cp vo.out (by kernel_rfl) rfl (by intro u hu; simp at hu; rcases hu with rfl | rfl | rfl | rfl | rfl; exact xO.out.ones.1; exact xO.out.ones.2.1; exact wj.out.1; exact wj.out.2; exact xO.out.ones.2.2) ?_; intro w11 hs11; have vl := Eh hs11; clear hs11 vo))
    refine bodyPost_ret (aL rfl _ _ rfl (aG (vl.out.blk 0 rfl))) rfl ?_
    rw [zJ.out]
    have hw7 := xO.out.mono vB.out
    refine ⟨_, _, D7, rfl, vC.out.trans vB.out, DocW.d ⟨hw7.t, hw7.m, yK.out, hw7.r⟩, ?_⟩
    exact vl.out.drop.drop.drop.swap.drop
  · have vx := Eh (aG (vh.out.blk 1 rfl))
    have vX := Eh (az (ak (vh.out.blk 0 rfl)))
    have zd := Eh (j9 o z HD.out yH.out hM vh.out)
    rw [yk.out] at zd
    go_upto_region 5 with (first | (refine ai rfl _ _ rfl _ _ rfl [_, _, _, _, _] vx.out ?_) | (refine ai rfl _ _ rfl _ _ rfl _ vX.out ?_) | (go_at_call 101; refine zd.out.mono ?_; rintro e5 w5 ⟨v5, D5, rfl, hle5, hd5, hs5⟩; obtain ⟨z0, z1, z2, z3, z4, rfl, h1⟩ := eY hd5; have vC := Eh hle5; have A1 := Eh (show DocD D5 _ d2 by rw [yU.out]; exact hd5); have H1 := Eh h1; have uZ := Eh (hs5.front 1 rfl); clear hle5 hd5 h1 hs5 zd vx vX vh) | (refine ap rfl _ _ _ rfl aQ b1 rfl [z0, z1, z2, z3, z4] rfl #[y0, y1, y2, y3, y4] uZ.out (by kernel_rfl) rfl H1.out ?_; intro w6 hs6; have vi := Eh (hs6.front 2 rfl); clear hs6 uZ))
    have xO := Eh (kt A1.out)
    obtain ⟨q0, q1, q2, q3, q4, qf⟩ := aT (vi.out.blk 1 rfl)
    have hQ2 : d2.q.held.length + d2.q.waits.length ≤ 1000 := by rw [yU.out]; exact hQ
    have xP := Eh (fz o xO.out.q hQ2 vi.out)
    go_upto_region 6 with (first | (go_at_call 98; refine xP.out.mono ?_; rintro e7 w7 ⟨v7, iv, D7, rfl, hle7, hq7, hs7⟩; obtain ⟨hv7, wv7, rfl, o7, p7⟩ := lT hq7; have vB := Eh hle7; have yK := Eh hq7; have wj := Eh (And.intro o7 p7); have vn := Eh (hs7.alloc #[hv7, wv7] tRq); clear hle7 hq7 o7 p7 hs7 xP q0 q1 q2 q3 q4 qf) | (refine ax rfl _ _ _ rfl [hv7, wv7] _ _ rfl rfl (by kernel_rfl) rfl (by intro u hu; simp at hu; rcases hu with rfl | rfl; exact wj.out.1; exact wj.out.2) ?_))
    obtain ⟨W8, hW8, hs8⟩ := Sat.hide vn.out
    rw [← hW8]
    clear hW8 vn vi
    generalize w7.heap.size = bq at hs8 ⊢
    have vU := Eh (bv (ak (cs := [hv7, wv7]) (hs8.blk 0 rfl)))
    have vw := Eh (hs8.front 3 rfl)
    clear hs8
    go_upto_region 7 with (first | (refine ai rfl _ _ rfl _ _ rfl [_, _] vU.out ?_) | (refine bm rfl _ _ _ rfl aQ b1 2 rfl [hv7, wv7] rfl [z0, z1, z2, z3, z4] vw.out (by kernel_rfl) (by simp) (by intro u hu; simp at hu; rcases hu with rfl | rfl; exact wj.out.1; exact wj.out.2) ?_; intro w9 hs9; have vu := Eh (show Sat B D7 w9 (blk b1 #[z0, z1, hv7, wv7, z4] aQ :: _) from hs9); clear hs9 vw))
    have yL := Eh (aG (vu.out.blk 0 rfl))
    have vo := Eh (vu.out.front 3 rfl)
    clear vu
    go_wp2_with (first | (refine ai rfl _ _ rfl _ _ rfl [_, _, _, _, _] yL.out ?_) | (refine ap rfl _ _ _ rfl aQ b2 rfl [z0, z1, hv7, wv7, z4] rfl cp vo.out (by kernel_rfl) rfl (by intro u hu; simp at hu; rcases hu with rfl | rfl | rfl | rfl | rfl; exact xO.out.ones.1; exact xO.out.ones.2.1; exact wj.out.1; exact wj.out.2; exact xO.out.ones.2.2) ?_; intro w11 hs11; have vl := Eh hs11; clear hs11 vo))
    refine bodyPost_ret (aL rfl _ _ rfl (aG (vl.out.blk 0 rfl))) rfl ?_
    rw [zJ.out]
    have hw7 := xO.out.mono vB.out
    refine ⟨_, _, D7, rfl, vC.out.trans vB.out, DocW.d ⟨hw7.t, hw7.m, yK.out, hw7.r⟩, ?_⟩
    exact vl.out.drop.drop.drop.swap.drop
  · have A1 := Eh (show DocD D (.agg #[y0, y1, y2, y3, y4]) d2 by rw [yU.out]; exact HD.out)
    have vC := Eh (PH.le.refl D)
    have vi := Eh (show Sat B D w4 (blk b2 cp aQ :: blk b1 #[y0, y1, y2, y3, y4] aQ :: blk bz z.cells.toArray tCl :: l) from (vh.out.front 1 rfl).front 2 rfl)
    clear vh
    go_upto_region 5 with fail
    have xO := Eh (kt A1.out)
    obtain ⟨q0, q1, q2, q3, q4, qf⟩ := aT (vi.out.blk 1 rfl)
    have hQ2 : d2.q.held.length + d2.q.waits.length ≤ 1000 := by rw [yU.out]; exact hQ
    have xP := Eh (fz o xO.out.q hQ2 vi.out)
    go_upto_region 6 with (first | (go_at_call 98; refine xP.out.mono ?_; rintro e7 w7 ⟨v7, iv, D7, rfl, hle7, hq7, hs7⟩; obtain ⟨hv7, wv7, rfl, o7, p7⟩ := lT hq7; have vB := Eh hle7; have yK := Eh hq7; have wj := Eh (And.intro o7 p7); have vn := Eh (hs7.alloc #[hv7, wv7] tRq); clear hle7 hq7 o7 p7 hs7 xP q0 q1 q2 q3 q4 qf) | (refine ax rfl _ _ _ rfl [hv7, wv7] _ _ rfl rfl (by kernel_rfl) rfl (by intro u hu; simp at hu; rcases hu with rfl | rfl; exact wj.out.1; exact wj.out.2) ?_))
    obtain ⟨W8, hW8, hs8⟩ := Sat.hide vn.out
    rw [← hW8]
    clear hW8 vn vi
    generalize w7.heap.size = bq at hs8 ⊢
    have vU := Eh (bv (ak (cs := [hv7, wv7]) (hs8.blk 0 rfl)))
    have vw := Eh (hs8.front 3 rfl)
    clear hs8
    go_upto_region 7 with (first | (refine ai rfl _ _ rfl _ _ rfl [_, _] vU.out ?_) | (refine bm rfl _ _ _ rfl aQ b1 2 rfl [hv7, wv7] rfl [y0, y1, y2, y3, y4] vw.out (by kernel_rfl) (by simp) (by intro u hu; simp at hu; rcases hu with rfl | rfl; exact wj.out.1; exact wj.out.2) ?_; intro w9 hs9; have vu := Eh (show Sat B D7 w9 (blk b1 #[y0, y1, hv7, wv7, y4] aQ :: _) from hs9); clear hs9 vw))
    have yL := Eh (aG (vu.out.blk 0 rfl))
    have vo := Eh (vu.out.front 3 rfl)
    clear vu
    go_wp2_with (first | (refine ai rfl _ _ rfl _ _ rfl [_, _, _, _, _] yL.out ?_) | (refine ap rfl _ _ _ rfl aQ b2 rfl [y0, y1, hv7, wv7, y4] rfl cp vo.out (by kernel_rfl) rfl (by intro u hu; simp at hu; rcases hu with rfl | rfl | rfl | rfl | rfl; exact xO.out.ones.1; exact xO.out.ones.2.1; exact wj.out.1; exact wj.out.2; exact xO.out.ones.2.2) ?_; intro w11 hs11; have vl := Eh hs11; clear hs11 vo))
    refine bodyPost_ret (aL rfl _ _ rfl (aG (vl.out.blk 0 rfl))) rfl ?_
    rw [zJ.out]
    have hw7 := xO.out.mono vB.out
    refine ⟨_, _, D7, rfl, vC.out.trans vB.out, DocW.d ⟨hw7.t, hw7.m, yK.out, hw7.r⟩, ?_⟩
    exact vl.out.drop.drop.drop.swap.drop
theorem uM {B w : World} {D : PH} {l : List HP} {v : Value} {d : DocM} (o : Int) (hd : DocD D v d) (hM : d.r.length ≤ 1000) (hQ : d.q.held.length + d.q.waits.length ≤ 1000) (s : Sat B D w l) :
    Calls Tryz.prog 59 #[v, .int .i64 o] w (iN B D l (jj d o).1 (jj d o).2) := by
  obtain ⟨i0, hi, hz0, hz1, hz2⟩ := info_parts i9
  have HI := Eh (And.intro hi (And.intro hz0 (And.intro hz1 hz2)))
  obtain ⟨i1, gi, gz0, gz1, gz2⟩ := info_parts iu
  have xK := Eh (And.intro gi (And.intro gz0 (And.intro gz1 gz2)))
  obtain ⟨y0, y1, y2, y3, y4, rfl, _⟩ := eY hd
  have hdw := kt hd
  obtain ⟨es, hr, hrr⟩ := hdw.r
  have hel : es.length ≤ 1000 := by rw [← List.length_map (f := iM), hrr]; exact hM
  obtain ⟨ra, rc, rfl⟩ := hr.1.shape
  obtain ⟨N, hN⟩ : ∃ N, es.length = N := ⟨_, rfl⟩
  have HN := Eh hN
  rw [hN] at hr hel hdw ⊢
  obtain ⟨W1, hW1, hs1⟩ := cG s #[y0, y1, y2, y3, .slice ra N rc] cp aQ aQ
  have uW := Eh hW1
  have uX := Eh hs1
  have vx := Eh (fz o hdw.q hQ hs1)
  have hgv := ja (R := RC) d.q o
  have hln := kY (R := RC) d.q o
  obtain ⟨q0, q1, q2, q3, q4, qf⟩ := aT (hs1.blk 0 rfl)
  have xz := Eh hdw
  have HR := Eh hr
  have zd := Eh (show (es.filter (fun e => decide (e.o ≠ o))).map iM = l3 d.r o by unfold l3; rw [← hrr, List.filter_map]; rfl)
  obtain ⟨Q1, hQ1⟩ : ∃ Q1, Q1 = bu RC d.q o := ⟨_, rfl⟩
  have Bn := Eh (show jj d o = (⟨d.ts, d.room, (aY RC Q1.1 (ofE o)).1, l3 d.r o⟩, Q1.2 ++ (aY RC Q1.1 (ofE o)).2) by unfold jj; rw [hQ1])
  rw [← hQ1] at vx hgv hln
  have hgd := kh (R := RC) Q1.1 (ofE o)
  clear s hs1 hW1 hd hdw hr hrr hN hQ1 hi hz0 hz1 hz2 gi gz0 gz1 gz2
  go_enter Tryz.func59, Tryz.ntmps59
  go_upto_region 1 with fail
  rw [← uW.out]
  clear uW
  generalize w.heap.size + 1 = b2 at *
  generalize w.heap.size = b1 at *
  go_upto_region 2 with (first | (go_at_call 98; refine vx.out.mono ?_; rintro e7 w7 ⟨v7, iv, D7, rfl, hle7, hq7, hs7⟩; obtain ⟨hv7, wv7, rfl, o7, p7⟩ := lT hq7; have vB := Eh hle7; have yK := Eh hq7; have wj := Eh (And.intro o7 p7); have vn := Eh (hs7.alloc #[hv7, wv7] tRq); clear hle7 hq7 o7 p7 hs7 vx uX q0 q1 q2 q3 q4 qf) | (refine ax rfl _ _ _ rfl [hv7, wv7] _ _ rfl rfl (by kernel_rfl) rfl (by intro u hu; simp at hu; rcases hu with rfl | rfl; exact wj.out.1; exact wj.out.2) ?_))
  obtain ⟨W8, hW8, hs8⟩ := Sat.hide vn.out
  rw [← hW8]
  clear hW8 vn
  generalize w7.heap.size = bq at hs8 ⊢
  have vU := Eh (bv (ak (cs := [hv7, wv7]) (hs8.blk 0 rfl)))
  have wA := Eh (pC o yK.out (Nat.le_trans hln hQ) hs8)
  clear hs8
  go_upto_region 3 with (first | (refine ai rfl _ _ rfl _ _ rfl [_, _] vU.out ?_) | (go_at_call 99; refine wA.out.mono ?_; rintro e9 w9 ⟨v9, iv9, D9, rfl, hle9, hq9, hs9⟩; obtain ⟨hv9, wv9, rfl, o9, p9⟩ := lT hq9; have wq := Eh (vB.out.trans hle9); have yD := Eh hq9; have Bo := Eh (And.intro o9 p9); have vu := Eh (hs9.alloc #[hv9, wv9] tRq); clear hle9 hq9 o9 p9 hs9 wA vU) | (refine ax rfl _ _ _ rfl [hv9, wv9] _ _ rfl rfl (by kernel_rfl) rfl (by intro u hu; simp at hu; rcases hu with rfl | rfl; exact Bo.out.1; exact Bo.out.2) ?_))
  obtain ⟨W10, hW10, hs10⟩ := Sat.hide vu.out
  rw [← hW10]
  clear hW10 vu
  generalize w9.heap.size = bq2 at hs10 ⊢
  have BP := Eh (bv (ak (cs := [hv9, wv9]) (hs10.blk 0 rfl)))
  have vo := Eh (hs10.front 4 rfl)
  clear hs10
  go_upto_region 4 with (first | (refine ai rfl _ _ rfl _ _ rfl [_, _] BP.out ?_) | (refine bm rfl _ _ _ rfl aQ b1 2 rfl [hv9, wv9] rfl [y0, y1, y2, y3, .slice ra N rc] vo.out (by kernel_rfl) (by simp) (by intro u hu; simp at hu; rcases hu with rfl | rfl; exact Bo.out.1; exact Bo.out.2) ?_; intro w11 hs11; have vl := Eh (show Sat B D9 w11 (blk b1 #[y0, y1, hv9, wv9, .slice ra N rc] aQ :: _) from hs11); clear hs11 vo))
  obtain ⟨va9, vc9, rfl⟩ := (vl.out.front 2 rfl).own_shape
  have vY := Eh (show Sat B D9 w11 (aI 3 1 iv Q1.2.length (Q1.2.map (Value.int .i64)) :: aI 3 1 (.slice va9 (aY RC Q1.1 (ofE o)).2.length vc9) (aY RC Q1.1 (ofE o)).2.length ((aY RC Q1.1 (ofE o)).2.map (Value.int .i64)) :: blk b1 #[y0, y1, hv9, wv9, .slice ra N rc] aQ :: blk bq2 #[hv9, wv9] tRq :: blk bq #[hv7, wv7] tRq :: blk b2 cp aQ :: l) from (vl.out.front 2 rfl).front 4 rfl)
  have vk := Eh (vY.out.own 1 rfl).rd
  clear vl BP
  have hQw : Q1.1.waits.length ≤ 1000 := by omega
  go_upto_region 5 with (at_builtin; refine au _ rfl _ _ 42 rfl 3 i1 _ 1 8 Tryz.underlying42 xK.out.1 xK.out.2.1 xK.out.2.2.1 xK.out.2.2.2 rfl _ Q1.2.length _ rfl vY.out _ (aY RC Q1.1 (ofE o)).2.length _ rfl vk.out (by intro u hu; obtain ⟨x, _, rfl⟩ := List.mem_map.1 hu; rfl) (by unfold maxLen; omega) (by omega) ?_; intro v13 w13 hs13 h13; have vM := Eh hs13; clear hs13 h13 vY vk)
  have wh := Eh (show Sat B D9 w13 (iJ (.slice none 0 0) [] :: blk b1 #[y0, y1, hv9, wv9, .slice ra N rc] aQ :: cj v13 (Q1.2 ++ (aY RC Q1.1 (ofE o)).2) :: blk b2 cp aQ :: l) from by
    have h1 := (((vM.out.front 1 rfl).drop).rm2.rm2.front 1 rfl)
    have h2 : Sat B D9 w13 (blk b1 #[y0, y1, hv9, wv9, .slice ra N rc] aQ :: aI 3 1 v13 (Q1.2.length + (aY RC Q1.1 (ofE o)).2.length) (Q1.2.map (Value.int .i64) ++ (aY RC Q1.1 (ofE o)).2.map (Value.int .i64)) :: blk b2 cp aQ :: l) := h1
    rw [← List.map_append, ← List.length_append] at h2
    exact h2.own_nil ct 19)
  obtain ⟨gva, hgva⟩ : ∃ g, g = Q1.2 ++ (aY RC Q1.1 (ofE o)).2 := ⟨_, rfl⟩
  rw [← hgva] at wh Bn
  clear vM hgva
  go_wp2_with fail
  go_loopw [10, 11] (fun ot i wr => ∃ (j : Nat) (oa : Option Addr) (oc : Nat) (zs : List ReaE), i = .int .i64 j ∧ ot = .slice oa zs.length oc ∧ j ≤ N ∧ zs = (es.take j).filter (fun e => decide (e.o ≠ o)) ∧ Sat B D9 wr (iJ (.slice oa zs.length oc) zs :: blk b1 #[y0, y1, hv9, wv9, .slice ra N rc] aQ :: cj v13 gva :: blk b2 cp aQ :: l)) (fun _ i _ => N - (intOf i).toNat)
  case atStart => exact ⟨0, none, 0, [], rfl, rfl, by omega, rfl, wh.out⟩
  case round =>
    obtain ⟨j, oa, oc, zs, rfl, rfl, hj, hzs, hs3⟩ := hrel
    have hle : zs.length ≤ j := by rw [hzs]; exact Nat.le_trans (List.length_filter_le _ _) (by rw [List.length_take]; omega)
    have wo := Eh hzs
    have uY := Eh hs3
    clear hzs hs3 wh
    obtain ⟨q0, q1, q2, q3, q4, qf⟩ := aT (uY.out.blk 1 rfl)
    by_cases hlt : j < N
    · have hii : (j : Int) < (N : Int) := by omega
      obtain ⟨x, hx⟩ : ∃ x, es[j]? = some x := ⟨es[j]'(by rw [HN.out]; exact hlt), List.getElem?_eq_getElem _⟩
      obtain ⟨g, og, rfl, hrng⟩ := aF dA (by have := (HR.out.mono wq.out).1.rd uY.out; rw [HN.out] at this; exact this) hx HN.out
      have y0' := (jY hrng).2.1
      have HL := Eh (j6 hrng)
      have HX := Eh hx
      clear hx hrng
      by_cases ho : x.o = o
      · have hne : (x.o != o) = false := by simpa using ho
        have HT := Eh (aW (q := fun e : ReaE => decide (e.o ≠ o)) HX.out (by simp [ho]))
        clear ho HL
        go_wp2_with fail
        go_roundw
        case rel => exact ⟨j + 1, oa, oc, zs, by go_num, rfl, by omega, by rw [HT.out]; exact wo.out, uY.out⟩
        case measure => simp [intOf]; omega
      · have hne : (x.o != o) = true := by simpa using ho
        have HT := Eh (aR (q := fun e : ReaE => decide (e.o ≠ o)) HX.out (by simp [ho]))
        have uZ := Eh ((uY.out.alloc (aZ x).toArray ct).front 1 rfl)
        have vk := Eh (aS (size := 19) (n := 1) (uZ.out.blk 1 rfl) (by simp [dA]) (by unfold maxLen; omega))
        clear uY ho
        go_wp2_with (first | (refine ai rfl _ _ rfl _ _ rfl _ HL.out ?_) | (refine aD rfl _ _ rfl ct i0 _ (aZ x) rfl Tryz.underlying59 HI.out.1 HI.out.2.1 (HI.out.2.2.1.trans rfl) (by rw [dA]; decide) (by rw [dA]; decide) ?_) | (at_builtin; refine au _ rfl _ _ go rfl ct i0 _ 19 208 Tryz.underlying59 HI.out.1 HI.out.2.1 HI.out.2.2.1 HI.out.2.2.2 rfl _ zs.length _ rfl uZ.out _ 1 _ rfl vk.out (by simpa using ku x) (by unfold maxLen; omega) (by omega) ?_; intro v15 w15 hs15 h15; obtain ⟨va, vc, rfl⟩ := hs15.own_shape; have vR := Eh hs15; clear hs15 h15 uZ vk HL))
        go_roundw
        case rel =>
          refine ⟨j + 1, va, vc, zs ++ [x], by go_num, by rw [List.length_append]; rfl, by omega, by rw [HT.out, wo.out], ?_⟩
          show Sat B D9 w15 (aI ct 19 (.slice va (zs ++ [x]).length vc) (zs ++ [x]).length ((zs ++ [x]).flatMap aZ) :: _)
          rw [List.length_append, List.flatMap_append]
          have h9 := (vR.out.front 1 rfl).drop
          simpa using h9
        case measure => simp [intOf]; omega
    · have hji : ¬ ((j : Int) < (N : Int)) := by omega
      have HT := Eh (show zs = es.filter (fun e => decide (e.o ≠ o)) by rw [wo.out, List.take_of_length_le (by rw [HN.out]; omega)])
      have vh := Eh (Sat.set5e (uY.out.front 1 rfl) (.slice oa zs.length oc))
      go_upto_region 12 with fail
      obtain ⟨W8, hW8, hs8⟩ := Sat.hide vh.out
      rw [← hW8]
      clear hW8 vh uY q0 q1 q2 q3 q4 qf
      obtain ⟨D2, hle2, hE2, hs9⟩ := fo (hs8.front 1 rfl) (fun e he => by rw [wo.out] at he; exact (HR.out.2 e (List.mem_of_mem_take (List.mem_filter.1 he).1)).mono wq.out)
      have vx := Eh (aG (hs9.blk 0 rfl))
      have vu := Eh (hs9.front 2 rfl)
      have vv := Eh hle2
      have xp := Eh hE2
      clear hs8 hs9 hE2 hle2
      go_wp2_with (first | (refine ai rfl _ _ rfl _ _ rfl [_, _, _, _, _] vx.out ?_) | (refine ap rfl _ _ _ rfl aQ b2 rfl [y0, y1, hv9, wv9, .slice oa zs.length oc] rfl cp vu.out (by kernel_rfl) rfl (by intro u hu; simp at hu; rcases hu with rfl | rfl | rfl | rfl | rfl; exact xz.out.ones.1; exact xz.out.ones.2.1; exact Bo.out.1; exact Bo.out.2; rfl) ?_; intro w20 hs20; have vq := Eh hs20; clear hs20 vu))
      refine bodyPost_ret (aL rfl _ _ rfl (aG (vq.out.blk 0 rfl))) rfl ?_
      rw [Bn.out]
      have hw7 := (xz.out.mono wq.out).mono vv.out
      exact ⟨_, _, D2, rfl, wq.out.trans vv.out, DocW.d ⟨hw7.t, hw7.m, yD.out.mono vv.out, ⟨zs, xp.out, by rw [HT.out]; exact zd.out⟩⟩, vq.out.drop.drop⟩
end Go.Proofs.YtgljdkjepdknnaaGreatDoor
