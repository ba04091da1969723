/- The document's locks: how many; asking (ratlineref11.Locks.Len, Ask). (printed by genrk6.py) -/
import Derived.Test.YtgljdkjepdknnaaGreatDoorML36
import Derived.Test.YtgljdkjepdknnaaGreatDoorML40
import Derived.Test.YtgljdkjepdknnaaGreatDoorML31
set_option maxHeartbeats 64000000
namespace Go.Proofs.YtgljdkjepdknnaaGreatDoor
open Go.ChangeShapes Go.WideShapes Go.ChangeAt Go.RowKit
set_option maxRecDepth 100000
set_option linter.unusedSimpArgs false
theorem eL {fn : Func} {a b c : Tmp} {ty : TypeId} (h : fn.results = #[.cell a ty, .tmp b, .tmp c]) (tmps : Array Value) (w : World) {g : Nat} {cs : Array Value} (ha : tmps.getD a undef = .pointer (some ⟨g, 0, none⟩)) (hl : (loadVar ty ⟨g, 0, none⟩).run Tryz.prog w = .ok (.agg cs) w) :
  (results fn tmps).run Tryz.prog w = .ok (.tuple #[.agg cs, tmps.getD b undef, tmps.getD c undef]) w := by
 have ha' : tmps[a]?.getD undef = .pointer (some ⟨g, 0, none⟩) := by simpa using ha
 simp [results, h]
 rw [ha']
 simp [asAddr, hl]
theorem lV (w : World) (e : ReaE) : (Instr.build ct #[(0, .int .i64 e.o), (1, .agg e.x.cells.toArray), (2, .int .i64 e.dur), (3, .int .i64 e.hand)]).run Tryz.prog w = .ok (.agg (aZ e).toArray) w := run_build w _ _ _ (by kernel_rfl)
theorem gj {w : World} {o : Oper} {a : Act} {ops : Array Oper} {rest : List Oper} {Q : Exit → Act → World → Prop} (hgd : o.guard = none) (xo xc xm xh : Operand) (ho : o.op = .build ct #[(0, xo), (1, xc), (2, xm), (3, xh)]) (e : ReaE) (h1 : a.eval xo = .int .i64 e.o) (h2 : a.eval xc = .agg e.x.cells.toArray) (h3 : a.eval xm = .int .i64 e.dur) (h4 : a.eval xh = .int .i64 e.hand)
  (h : wpList Tryz.prog ops Q rest (a.put o.dst (.agg (aZ e).toArray)) w) : wpList Tryz.prog ops Q (o :: rest) a w :=
 wpList_plain hgd fun _ hK => by
  have hrun := lV w e
  unfold Oper.wp execOp
  simp only [ho, List.map_toArray, List.map_cons, List.map_nil, h1, h2, h3, h4, Sem.run_bind, Sem.run_pure, Result.andThen_ok, hrun]
  exact hK _ _ h
theorem qW {dur hand : Int} (h : ¬ (dur = 1 ∨ dur = 3 ∨ dur = 2 ∧ 1 ≤ hand ∧ hand ≤ 2)) : cu dur hand = 0 := by
 unfold cu
 rw [if_neg (by omega), if_neg (by omega), if_neg (by omega)]
theorem uB {dur hand : Int} (h : dur = 1 ∨ dur = 3 ∨ dur = 2 ∧ 1 ≤ hand ∧ hand ≤ 2) : ¬ cu dur hand = 0 := by
 unfold cu
 split
 ·omega
 ·split
  ·omega
  ·rw [if_pos (by omega)]
   split <;> omega
def gd (d : DocM) : Nat := d.q.held.length + d.q.waits.length
noncomputable def gQ (d : DocM) (o : Int) (c : Clm) (dur hand : Int) : DocM × Bool × Int :=
 if !bH d.ts c || decide (cu dur hand = 0) then (d, false, 111) else
 if (aP d.q o).2 then (d, false, 110) else
 if !(aN d.q o).any (fun h => RC.same h c) && decide (d.room ≤ (gd d : Int)) then (d, false, 62) else
 (⟨d.ts, d.room, (bj RC d.q o c true).1, d.r ++ [⟨o, c, dur, if dur = 2 then hand else 0⟩]⟩, (bj RC d.q o c true).2, 0)
def AskDGot (B : World) (D : PH) (l : List HP) (R : DocM × Bool × Int) (r : Ending) (w' : World) : Prop := ∃ (v : Value) (D' : PH), r = .returned (.tuple #[v, .bool R.2.1, .int .i64 R.2.2]) ∧ PH.le D D' ∧ DocD D' v R.1 ∧ Sat B D' w' l
theorem qY {B w : World} {D : PH} {l : List HP} {v : Value} {d : DocM} (hd : DocD D v d) (hm : gd d ≤ 1000000) (s : Sat B D w l) :
  Calls Tryz.prog 31 #[v] w fun r w' => r = .returned (.int .i64 (gd d)) ∧ Sat B D w' l := by
 obtain ⟨ta, ha, wa, ra, tc, hcc, wc, rc, hs, ws, es, rfl, _, _, _, hhq, hwq, _, _, hs1⟩ := lC hd s
 have hn : gd d = hs.length + ws.length := by unfold gd; rw [← hhq, ← hwq, List.length_map, List.length_map]
 obtain ⟨q0, q1, q2, q3, q4, qf⟩ := aT (hs1.blk 0 rfl)
 have uX := Eh hs1
 have hm2 : hs.length + ws.length ≤ 1000000 := by omega
 rw [hn]
 clear hd s hs1 hhq hwq hn hm
 generalize hs.length = n1 at *
 generalize ws.length = n2 at *
 generalize es.length = n3 at *
 go_enter Tryz.func31, Tryz.ntmps31
 go_wp2_with fail
 go_ret
 exact ⟨by first | rfl | (rw [Int.natCast_add]) | (congr 2; go_num), uX.out.drop⟩
theorem uU {B w : World} {D : PH} {l : List HP} {v : Value} {d : DocM} (o : Int) (c : ClmE) (dur hand : Int) (hd : DocD D v d) (hok : QOk d.q) (hc : ClOk D c) (hfit : bV c.c) (hsm : ClmSm 1000000 c.c) (hnd : c.pr.p.nodes.length ≤ 1000000) (hqs : ∀ e ∈ d.q.held, ClmSm 1000000 e.c) (hM : d.r.length ≤ 1000) (hQ : gd d ≤ 1000) (s : Sat B D w l) :
  Calls Tryz.prog 62 #[v, .int .i64 o, .agg c.cells.toArray, .int .i64 dur, .int .i64 hand] w (AskDGot B D l (gQ d o c.c dur hand)) := by
 obtain ⟨i0, hi, hz0, hz1, hz2⟩ := info_parts i9
 have HI := Eh (And.intro hi (And.intro hz0 (And.intro hz1 hz2)))
 obtain ⟨y0, y1, y2, y3, y4, rfl, h1⟩ := eY hd
 have H1 := Eh h1
 have xz := Eh (kt hd)
 obtain ⟨W1, hW1, hs1⟩ := d9 s #[y0, y1, y2, y3, y4] c.cells.toArray cp aQ tCl aQ
 have uW := Eh hW1
 have uX := Eh hs1
 have HD := Eh hd
 have HC := Eh hc
 have vP := Eh (And.intro hok (And.intro hfit (And.intro hsm (And.intro hqs (And.intro hM hQ)))))
 have yV := Eh (rMay_ok (kt hd).t c hc hnd hs1)
 have vr := Eh (az (ak (hs1.blk 1 rfl)))
 obtain ⟨q0, q1, q2, q3, q4, qf⟩ := aT (hs1.blk 0 rfl)
 obtain ⟨rr, hrr⟩ : ∃ rr, rr = gQ d o c.c dur hand := ⟨_, rfl⟩
 rw [← hrr]
 have vA := Eh hrr
 obtain ⟨mk, hmk⟩ : ∃ mk, bH d.ts c.c = mk := ⟨_, rfl⟩
 rw [hmk] at yV
 have CG := Eh hmk
 obtain ⟨e, he⟩ : ∃ e : ReaE, e = ⟨o, c, dur, if dur = 2 then hand else 0⟩ := ⟨_, rfl⟩
 have HE := Eh he
 clear hd s hs1 hW1 hc hok hfit hsm hqs hM hQ h1 hrr hmk hnd he hi hz0 hz1 hz2
 have hdur : ((dur = 2 ∧ hand < 1) ∨ (dur = 2 ∧ ¬ hand < 1 ∧ hand > 2) ∨ ((dur != 1) = true ∧ (dur != 3) = true ∧ (dur != 2) = true)) ∨ (dur = 1 ∨ dur = 3 ∨ (dur = 2 ∧ ¬ hand < 1 ∧ ¬ hand > 2)) := by simp only [bne_iff_ne, ne_eq]; omega
 go_enter Tryz.func62, Tryz.ntmps62
 go_upto_region 1 with fail
 rw [← uW.out]
 clear uW
 generalize w.heap.size + 1 + 1 = b3 at *
 generalize w.heap.size + 1 = b2 at *
 generalize w.heap.size = b1 at *
 go_upto_region 2 with (first | (refine ai rfl _ _ rfl _ _ rfl _ vr.out ?_) | (go_at_call 104; refine yV.out.mono ?_; rintro e2 w2 ⟨rfl, hs2⟩; have vg := Eh hs2; clear hs2 yV uX vr q0 q1 q2 q3 q4 qf))
 cases mk
 ·have HR := Eh (show rr = (d, false, 111) by rw [vA.out]; unfold gQ; rw [CG.out]; rfl)
  have uY := Eh (vg.out.front 2 rfl)
  have vx := Eh (aG (uY.out.blk 1 rfl))
  clear hdur HE vA
  go_wp2_with (first | (refine ai rfl _ _ rfl _ _ rfl [_, _, _, _, _] vx.out ?_) | (refine ap rfl _ _ _ rfl aQ b3 rfl [y0, y1, y2, y3, y4] rfl cp uY.out (by kernel_rfl) rfl H1.out ?_; intro w9 hs9; have vu := Eh hs9; clear hs9 uY))
  refine bodyPost_ret (eL rfl _ _ rfl (aG (vu.out.blk 0 rfl))) rfl ?_
  rw [HR.out]
  exact ⟨_, D, rfl, PH.le.refl _, HD.out, vu.out.drop.drop.drop⟩
 rcases hdur with hdur | hdur
 ·have HR := Eh (show rr = (d, false, 111) by
   rw [vA.out]; unfold gQ
   rw [qW (dur := dur) (hand := hand) (by simp only [bne_iff_ne, ne_eq] at hdur; omega)]
   simp)
  have uY := Eh (vg.out.front 2 rfl)
  have vx := Eh (aG (uY.out.blk 1 rfl))
  clear HE vA
  rcases hdur with ⟨rfl, h1⟩ | ⟨rfl, h1, h2⟩ | ⟨h1, h2, h3⟩
  all_goals
   go_wp2_with (first | (refine ai rfl _ _ rfl _ _ rfl [_, _, _, _, _] vx.out ?_) | (refine ap rfl _ _ _ rfl aQ b3 rfl [y0, y1, y2, y3, y4] rfl cp uY.out (by kernel_rfl) rfl H1.out ?_; intro w9 hs9; have vu := Eh hs9; clear hs9 uY))
   refine bodyPost_ret (eL rfl _ _ rfl (aG (vu.out.blk 0 rfl))) rfl ?_
   rw [HR.out]
   exact ⟨_, D, rfl, PH.le.refl _, HD.out, vu.out.drop.drop.drop⟩
 have HG := Eh (show rr = if (aP d.q o).2 then (d, false, 110) else if !(aN d.q o).any (fun h => RC.same h c.c) && decide (d.room ≤ (gd d : Int)) then (d, false, 62) else (⟨d.ts, d.room, (bj RC d.q o c.c true).1, d.r ++ [iM e]⟩, (bj RC d.q o c.c true).2, 0) by
  rw [vA.out, HE.out]; unfold gQ
  rw [CG.out, decide_eq_false (uB (dur := dur) (hand := hand) (by omega))]
  rfl)
 clear vA CG
 rcases hdur with rfl | rfl | ⟨rfl, h1, h2⟩
 all_goals
  go_upto_region 4 with fail
  have xg := Eh (eq o xz.out.q vg.out)
  obtain ⟨q0, q1, q2, q3, q4, qf⟩ := aT (vg.out.blk 0 rfl)
  go_upto_region 5 with (first | (go_at_call 32; refine xg.out.mono ?_; rintro e4 w4 ⟨z, rfl, hzc, hzo, _, hs4⟩; have yH := Eh hzo; have vh := Eh (hs4.alloc z.cells.toArray tCl); clear hzc hzo hs4 xg vg q0 q1 q2 q3 q4 qf) | (refine ax rfl _ _ _ rfl z.cells _ _ rfl rfl (by kernel_rfl) rfl (ClmE.one z) ?_))
  obtain ⟨W5, hW5, hs5⟩ := Sat.hide vh.out
  rw [← hW5]
  have uZ := Eh hs5.drop
  clear hW5 vh hs5
  obtain ⟨wb, hwb⟩ : ∃ wb, (aP d.q o).2 = wb := ⟨_, rfl⟩
  rw [hwb] at HG ⊢
  clear hwb
  cases wb
  rotate_left
  ·have HR := Eh (show rr = (d, false, 110) by rw [HG.out]; rfl)
   have uY := Eh (uZ.out.front 2 rfl)
   have vx := Eh (aG (uY.out.blk 1 rfl))
   clear uZ HE
   go_wp2_with (first | (refine ai rfl _ _ rfl _ _ rfl [_, _, _, _, _] vx.out ?_) | (refine ap rfl _ _ _ rfl aQ b3 rfl [y0, y1, y2, y3, y4] rfl cp uY.out (by kernel_rfl) rfl H1.out ?_; intro w9 hs9; have vu := Eh hs9; clear hs9 uY))
   refine bodyPost_ret (eL rfl _ _ rfl (aG (vu.out.blk 0 rfl))) rfl ?_
   rw [HR.out]
   exact ⟨_, D, rfl, PH.le.refl _, HD.out, vu.out.drop.drop.drop⟩
  have Ci := Eh (show rr = if !(aN d.q o).any (fun h => RC.same h c.c) && decide (d.room ≤ (gd d : Int)) then (d, false, 62) else (⟨d.ts, d.room, (bj RC d.q o c.c true).1, d.r ++ [iM e]⟩, (bj RC d.q o c.c true).2, 0) by rw [HG.out]; rfl)
  clear HG
  have vx := Eh (aG (uZ.out.blk 0 rfl))
  have vr := Eh (az (ak (uZ.out.blk 1 rfl)))
  have A0 := Eh (rD o c HD.out HC.out (by have := vP.out.2.2.2.2.2; unfold gd at this; omega) uZ.out)
  obtain ⟨hb, hhb⟩ : ∃ hb, (aN d.q o).any (fun h => RC.same h c.c) = hb := ⟨_, rfl⟩
  rw [hhb] at A0 Ci
  clear hhb
  go_upto_region 8 with (first | (refine ai rfl _ _ rfl _ _ rfl [_, _, _, _, _] vx.out ?_) | (refine ai rfl _ _ rfl _ _ rfl _ vr.out ?_) | (go_at_call 100; refine A0.out.mono ?_; rintro e6 w6 ⟨rfl, hs6⟩; have vi := Eh hs6; clear hs6 A0 uZ vx vr))
  have vx := Eh (aG (w := w6.drew) (vi.out.drew.blk 0 rfl))
  obtain ⟨q0, q1, q2, q3, q4, qf⟩ := aT (vi.out.drew.blk 0 rfl)
  rw [xz.out.m] at q1
  cases hb
  ·have vK := Eh (qY HD.out (by have := vP.out.2.2.2.2.2; omega) vi.out.drew)
   refine ag [(0, false, 4), (1, false, 4), (2, false, 4), (3, false, 4), (5, false, 999), (6, false, 999), (4, true, 0), (7, false, 999), (8, false, 999)] (by kernel_rfl) (by kernel_rfl) ?_
   iterate 3 (refine af rfl rfl (fun K hK => ?_); (first | ((refine aj _ _ rfl _ _ rfl _ vx.out ?_); go_simp) | go_simp); refine hK _ ?_; clear hK K)
   iterate 3 (first | (refine aq rfl rfl ?_; simp only [Act.put, Ei, Ej, Ek, El, Em, En]) | (refine am rfl rfl (fun K hK => ?_); (first | ((refine aj _ _ rfl _ _ rfl _ vx.out ?_); go_simp) | go_simp); refine hK _ ?_; clear hK K))
   refine al rfl ?_
   refine aw rfl (fun K hK => ?_)
   go_simp
   refine vK.out.mono ?_
   rintro e8 w8 ⟨rfl, hs8⟩
   have vw := Eh hs8
   clear hs8 vK vx vi q0 q1 q2 q3 q4 qf
   obtain ⟨q0, q1, q2, q3, q4, qf⟩ := aT (vw.out.blk 0 rfl)
   rw [xz.out.m] at q1
   refine hK _ _ ?_
   clear hK K
   refine wpList_nil ?_
   refine And.intro ?_ ?_
   ·go_simp
   first | (refine aq rfl rfl ?_; simp only [Act.put, Ei, Ej, Ek, El, Em, En]) | (refine am rfl rfl (fun K hK => ?_); (first | ((refine aj _ _ rfl _ _ rfl _ vx.out ?_); go_simp) | go_simp); refine hK _ ?_; clear hK K)
   refine af rfl rfl (fun K hK => ?_); (first | ((refine aj _ _ rfl _ _ rfl _ vx.out ?_); go_simp) | go_simp); refine hK _ ?_; clear hK K
   refine ar ?_
   by_cases hrm : (gd d : Int) ≥ d.room
   ·have HR := Eh (show rr = (d, false, 62) by rw [Ci.out, decide_eq_true (show d.room ≤ (gd d : Int) from hrm)]; rfl)
    have uY := Eh (vw.out.front 2 rfl)
    have vx := Eh (aG (uY.out.blk 1 rfl))
    clear vw HE q0 q1 q2 q3 q4 qf
    go_wp2_with (first | (refine ai rfl _ _ rfl _ _ rfl [_, _, _, _, _] vx.out ?_) | (refine ap rfl _ _ _ rfl aQ b3 rfl [y0, y1, y2, y3, y4] rfl cp uY.out (by kernel_rfl) rfl H1.out ?_; intro w9 hs9; have vu := Eh hs9; clear hs9 uY))
    refine bodyPost_ret (eL rfl _ _ rfl (aG (vu.out.blk 0 rfl))) rfl ?_
    rw [HR.out]
    exact ⟨_, D, rfl, PH.le.refl _, HD.out, vu.out.drop.drop.drop⟩
   ·have HR := Eh (show rr = (⟨d.ts, d.room, (bj RC d.q o c.c true).1, d.r ++ [iM e]⟩, (bj RC d.q o c.c true).2, 0) by rw [Ci.out, decide_eq_false (show ¬ d.room ≤ (gd d : Int) from hrm)]; rfl)
    have wk := Eh vw.out
    clear vw q0 q1 q2 q3 q4 qf
    go_upto_region 10 with fail
    clear hrm
    have vr := Eh (az (ak (wk.out.blk 1 rfl)))
    have Ab := Eh (kU o c false vP.out.1 xz.out.q HC.out vP.out.2.1 vP.out.2.2.1 vP.out.2.2.2.1 (by have := vP.out.2.2.2.2.2; unfold gd at this; omega) (by have := vP.out.2.2.2.2.2; unfold gd at this; omega) wk.out)
    obtain ⟨q0, q1, q2, q3, q4, qf⟩ := aT (wk.out.blk 0 rfl)
    go_upto_region 11 with (first | (refine ai rfl _ _ rfl _ _ rfl _ vr.out ?_) | (go_at_call 102; refine Ab.out.mono ?_; rintro ea wa ⟨v7, D7, rfl, hle7, hq7, hs7⟩; obtain ⟨hv7, wv7, rfl, o7, p7⟩ := lT hq7; have vB := Eh hle7; have yK := Eh hq7; have wj := Eh (And.intro o7 p7); have vn := Eh (hs7.alloc #[hv7, wv7] tRq); clear hle7 hq7 o7 p7 hs7 Ab wk vr q0 q1 q2 q3 q4 qf) | (refine ax rfl _ _ _ rfl [hv7, wv7] _ _ rfl rfl (by kernel_rfl) rfl (by intro u hu; simp at hu; rcases hu with rfl | rfl; exact wj.out.1; exact wj.out.2) ?_))
    obtain ⟨Wb, hWb, hsb⟩ := Sat.hide vn.out
    rw [← hWb]
    clear hWb vn
    generalize wa.heap.size = bq at hsb ⊢
    have vU := Eh (bv (ak (cs := [hv7, wv7]) (hsb.blk 0 rfl)))
    have xV := Eh ((hsb.front 1 rfl))
    clear hsb
    go_upto_region 12 with (first | (refine ai rfl _ _ rfl _ _ rfl [_, _] vU.out ?_) | (refine bm rfl _ _ _ rfl aQ b1 2 rfl [hv7, wv7] rfl [y0, y1, y2, y3, y4] xV.out (by kernel_rfl) (by simp) (by intro u hu; simp at hu; rcases hu with rfl | rfl; exact wj.out.1; exact wj.out.2) ?_; intro wc hsc; have ze := Eh (show Sat B D7 wc (blk b1 #[y0, y1, hv7, wv7, y4] aQ :: _) from hsc); clear hsc xV vU))
    obtain ⟨es, hr, hrr⟩ := xz.out.r
    have hel : es.length ≤ 1000 := by rw [← List.length_map (f := iM), hrr]; exact vP.out.2.2.2.2.1
    have zo := Eh hrr
    have hr7 := hr.mono vB.out
    have BS := Eh hr7.2
    have xD := Eh (((ze.out.front 1 rfl).drop).own_nil ct 19)
    have vk := Eh (hr7.1.rd xD.out)
    have zR := Eh (jC es)
    obtain ⟨q0, q1, q2, q3, q4, qf⟩ := aT (xD.out.blk 1 rfl)
    clear hr hrr hr7 ze
    generalize hNE : es.length = NE at *
    have xE := Eh hNE
    clear hNE
    go_upto_region 16 with (at_builtin; refine au _ rfl _ _ go rfl ct i0 _ 19 208 Tryz.underlying59 HI.out.1 HI.out.2.1 HI.out.2.2.1 HI.out.2.2.2 rfl _ 0 _ rfl xD.out _ NE _ rfl vk.out zR.out (by unfold maxLen; omega) (by omega) ?_; intro v13 w13 hs13 h13; have vM := Eh hs13; clear hs13 h13 xD vk q0 q1 q2 q3 q4 qf)
    have wh := Eh (show Sat B D7 w13 (aI ct 19 v13 NE (es.flatMap aZ) :: _) from by have h := vM.out; rw [Nat.zero_add, List.nil_append] at h; exact h)
    have vr := Eh (az (ak (wh.out.blk 2 rfl)))
    have vR := Eh ((wh.out.alloc (aZ e).toArray ct).front 1 rfl)
    have vk := Eh (aS (size := 19) (n := 1) (vR.out.blk 1 rfl) (by simp [dA]) (by unfold maxLen; omega))
    clear vM wh
    go_upto_region 17 with (first | (refine ai rfl _ _ rfl _ _ rfl _ vr.out ?_) | (refine gj rfl _ _ _ _ rfl e (by rw [HE.out]; rfl) (by rw [HE.out]; rfl) (by rw [HE.out]; rfl) (by rw [HE.out]; rfl) ?_) | (refine aD rfl _ _ rfl ct i0 _ (aZ e) rfl Tryz.underlying59 HI.out.1 HI.out.2.1 (HI.out.2.2.1.trans rfl) (by rw [dA]; decide) (by rw [dA]; decide) ?_) | (at_builtin; refine au _ rfl _ _ go rfl ct i0 _ 19 208 Tryz.underlying59 HI.out.1 HI.out.2.1 HI.out.2.2.1 HI.out.2.2.2 rfl _ NE _ rfl vR.out _ 1 _ rfl vk.out (by simpa using ku e) (by unfold maxLen; omega) (by omega) ?_; intro v16 w16 hs16 h16; have vS := Eh hs16; clear hs16 h16 vR vk vr))
    obtain ⟨va, vc, rfl⟩ := vS.out.own_shape
    have vO := Eh (show Sat B D7 w16 (blk b1 #[y0, y1, hv7, wv7, y4] aQ :: iJ (.slice va (NE + 1) vc) (es ++ [e]) :: blk b2 c.cells.toArray tCl :: blk b3 cp aQ :: l) from by
     show Sat B D7 w16 (_ :: aI ct 19 (.slice va (NE + 1) vc) (es ++ [e]).length ((es ++ [e]).flatMap aZ) :: _)
     rw [List.length_append, List.flatMap_append, xE.out]
     have h := ((vS.out.front 1 rfl).drop).front 1 rfl
     simpa using h)
    have wW := Eh (Sat.set5e vO.out (.slice va (NE + 1) vc))
    obtain ⟨q0, q1, q2, q3, q4, qf⟩ := aT (vO.out.blk 0 rfl)
    go_upto_region 18 with fail
    obtain ⟨Wd, hWd, hsd⟩ := Sat.hide wW.out
    rw [← hWd]
    clear hWd wW vO vS q0 q1 q2 q3 q4 qf
    obtain ⟨D2, hle2, hE2, hs19⟩ := fo (hsd.front 1 rfl) (fun x hx => by
     rcases List.mem_append.1 hx with hx | hx
     ·exact BS.out x hx
     ·rw [List.mem_singleton] at hx
      rw [hx, HE.out]
      exact HC.out.mono vB.out)
    have vx := Eh (aG (hs19.blk 0 rfl))
    have wK := Eh (hs19.front 2 rfl)
    have vv := Eh hle2
    have xp := Eh hE2
    clear hsd hs19 hE2 hle2
    go_wp2_with (first | (refine ai rfl _ _ rfl _ _ rfl [_, _, _, _, _] vx.out ?_) | (refine ap rfl _ _ _ rfl aQ b3 rfl [y0, y1, hv7, wv7, .slice va (NE + 1) vc] rfl cp wK.out (by kernel_rfl) rfl (by intro u hu; simp at hu; rcases hu with rfl | rfl | rfl | rfl | rfl; exact xz.out.ones.1; exact xz.out.ones.2.1; exact wj.out.1; exact wj.out.2; rfl) ?_; intro w20 hs20; have vq := Eh hs20; clear hs20 wK))
    refine bodyPost_ret (eL rfl _ _ rfl (aG (vq.out.blk 0 rfl))) rfl ?_
    rw [HR.out]
    have hw7 := (xz.out.mono vB.out).mono vv.out
    exact ⟨_, D2, rfl, vB.out.trans vv.out, DocW.d ⟨hw7.t, hw7.m, yK.out.mono vv.out, ⟨es ++ [e], xp.out, by rw [List.map_append, zo.out]; rfl⟩⟩, vq.out.drop.drop.drop⟩
  ·have HR := Eh (show rr = (⟨d.ts, d.room, (bj RC d.q o c.c true).1, d.r ++ [iM e]⟩, (bj RC d.q o c.c true).2, 0) by rw [Ci.out]; rfl)
   have wk := Eh vi.out.drew
   refine ag [(0, false, 4), (1, false, 4), (2, false, 4), (3, false, 4), (5, false, 999), (6, false, 999), (4, true, 0), (7, false, 999), (8, false, 999)] (by kernel_rfl) (by kernel_rfl) ?_
   iterate 3 (refine af rfl rfl (fun K hK => ?_); go_simp; refine hK _ ?_; clear hK K)
   iterate 3 (first | (refine aq rfl rfl ?_; simp only [Act.put, Ei, Ej, Ek, El, Em, En]) | (refine am rfl rfl (fun K hK => ?_); go_simp; refine hK _ ?_; clear hK K))
   refine al rfl ?_
   refine bO rfl ?_
   simp only [Act.put, Ei, Ej, Ek]
   refine wpList_nil ?_
   refine And.intro ?_ ?_
   ·go_simp
   first | (refine aq rfl rfl ?_; simp only [Act.put, Ei, Ej, Ek, El, Em, En]) | (refine am rfl rfl (fun K hK => ?_); go_simp; refine hK _ ?_; clear hK K)
   refine af rfl rfl (fun K hK => ?_); go_simp; refine hK _ ?_; clear hK K
   refine ar ?_
   clear vi vx q0 q1 q2 q3 q4 qf
   have vr := Eh (az (ak (wk.out.blk 1 rfl)))
   have Ab := Eh (kU o c false vP.out.1 xz.out.q HC.out vP.out.2.1 vP.out.2.2.1 vP.out.2.2.2.1 (by have := vP.out.2.2.2.2.2; unfold gd at this; omega) (by have := vP.out.2.2.2.2.2; unfold gd at this; omega) wk.out)
   obtain ⟨q0, q1, q2, q3, q4, qf⟩ := aT (wk.out.blk 0 rfl)
   go_upto_region 11 with (first | (refine ai rfl _ _ rfl _ _ rfl _ vr.out ?_) | (go_at_call 102; refine Ab.out.mono ?_; rintro ea wa ⟨v7, D7, rfl, hle7, hq7, hs7⟩; obtain ⟨hv7, wv7, rfl, o7, p7⟩ := lT hq7; have vB := Eh hle7; have yK := Eh hq7; have wj := Eh (And.intro o7 p7); have vn := Eh (hs7.alloc #[hv7, wv7] tRq); clear hle7 hq7 o7 p7 hs7 Ab wk vr q0 q1 q2 q3 q4 qf) | (refine ax rfl _ _ _ rfl [hv7, wv7] _ _ rfl rfl (by kernel_rfl) rfl (by intro u hu; simp at hu; rcases hu with rfl | rfl; exact wj.out.1; exact wj.out.2) ?_))
   obtain ⟨Wb, hWb, hsb⟩ := Sat.hide vn.out
   rw [← hWb]
   clear hWb vn
   generalize wa.heap.size = bq at hsb ⊢
   have vU := Eh (bv (ak (cs := [hv7, wv7]) (hsb.blk 0 rfl)))
   have xV := Eh ((hsb.front 1 rfl))
   clear hsb
   go_upto_region 12 with (first | (refine ai rfl _ _ rfl _ _ rfl [_, _] vU.out ?_) | (refine bm rfl _ _ _ rfl aQ b1 2 rfl [hv7, wv7] rfl [y0, y1, y2, y3, y4] xV.out (by kernel_rfl) (by simp) (by intro u hu; simp at hu; rcases hu with rfl | rfl; exact wj.out.1; exact wj.out.2) ?_; intro wc hsc; have ze := Eh (show Sat B D7 wc (blk b1 #[y0, y1, hv7, wv7, y4] aQ :: _) from hsc); clear hsc xV vU))
   obtain ⟨es, hr, hrr⟩ := xz.out.r
   have hel : es.length ≤ 1000 := by rw [← List.length_map (f := iM), hrr]; exact vP.out.2.2.2.2.1
   have zo := Eh hrr
   have hr7 := hr.mono vB.out
   have BS := Eh hr7.2
   have xD := Eh (((ze.out.front 1 rfl).drop).own_nil ct 19)
   have vk := Eh (hr7.1.rd xD.out)
   have zR := Eh (jC es)
   obtain ⟨q0, q1, q2, q3, q4, qf⟩ := aT (xD.out.blk 1 rfl)
   clear hr hrr hr7 ze
   generalize hNE : es.length = NE at *
   have xE := Eh hNE
   clear hNE
   go_upto_region 16 with (at_builtin; refine au _ rfl _ _ go rfl ct i0 _ 19 208 Tryz.underlying59 HI.out.1 HI.out.2.1 HI.out.2.2.1 HI.out.2.2.2 rfl _ 0 _ rfl xD.out _ NE _ rfl vk.out zR.out (by unfold maxLen; omega) (by omega) ?_; intro v13 w13 hs13 h13; have vM := Eh hs13; clear hs13 h13 xD vk q0 q1 q2 q3 q4 qf)
   have wh := Eh (show Sat B D7 w13 (aI ct 19 v13 NE (es.flatMap aZ) :: _) from by have h := vM.out; rw [Nat.zero_add, List.nil_append] at h; exact h)
   have vr := Eh (az (ak (wh.out.blk 2 rfl)))
   have vR := Eh ((wh.out.alloc (aZ e).toArray ct).front 1 rfl)
   have vk := Eh (aS (size := 19) (n := 1) (vR.out.blk 1 rfl) (by simp [dA]) (by unfold maxLen; omega))
   clear vM wh
   go_upto_region 17 with (first | (refine ai rfl _ _ rfl _ _ rfl _ vr.out ?_) | (refine gj rfl _ _ _ _ rfl e (by rw [HE.out]; rfl) (by rw [HE.out]; rfl) (by rw [HE.out]; rfl) (by rw [HE.out]; rfl) ?_) | (refine aD rfl _ _ rfl ct i0 _ (aZ e) rfl Tryz.underlying59 HI.out.1 HI.out.2.1 (HI.out.2.2.1.trans rfl) (by rw [dA]; decide) (by rw [dA]; decide) ?_) | (at_builtin; refine au _ rfl _ _ go rfl ct i0 _ 19 208 Tryz.underlying59 HI.out.1 HI.out.2.1 HI.out.2.2.1 HI.out.2.2.2 rfl _ NE _ rfl vR.out _ 1 _ rfl vk.out (by simpa using ku e) (by unfold maxLen; omega) (by omega) ?_; intro v16 w16 hs16 h16; have vS := Eh hs16; clear hs16 h16 vR vk vr))
   obtain ⟨va, vc, rfl⟩ := vS.out.own_shape
   have vO := Eh (show Sat B D7 w16 (blk b1 #[y0, y1, hv7, wv7, y4] aQ :: iJ (.slice va (NE + 1) vc) (es ++ [e]) :: blk b2 c.cells.toArray tCl :: blk b3 cp aQ :: l) from by
    show Sat B D7 w16 (_ :: aI ct 19 (.slice va (NE + 1) vc) (es ++ [e]).length ((es ++ [e]).flatMap aZ) :: _)
    rw [List.length_append, List.flatMap_append, xE.out]
    have h := ((vS.out.front 1 rfl).drop).front 1 rfl
    simpa using h)
   have wW := Eh (Sat.set5e vO.out (.slice va (NE + 1) vc))
   obtain ⟨q0, q1, q2, q3, q4, qf⟩ := aT (vO.out.blk 0 rfl)
   go_upto_region 18 with fail
   obtain ⟨Wd, hWd, hsd⟩ := Sat.hide wW.out
   rw [← hWd]
   clear hWd wW vO vS q0 q1 q2 q3 q4 qf
   obtain ⟨D2, hle2, hE2, hs19⟩ := fo (hsd.front 1 rfl) (fun x hx => by
    rcases List.mem_append.1 hx with hx | hx
    ·exact BS.out x hx
    ·rw [List.mem_singleton] at hx
     rw [hx, HE.out]
     exact HC.out.mono vB.out)
   have vx := Eh (aG (hs19.blk 0 rfl))
   have wK := Eh (hs19.front 2 rfl)
   have vv := Eh hle2
   have xp := Eh hE2
   clear hsd hs19 hE2 hle2
   go_wp2_with (first | (refine ai rfl _ _ rfl _ _ rfl [_, _, _, _, _] vx.out ?_) | (refine ap rfl _ _ _ rfl aQ b3 rfl [y0, y1, hv7, wv7, .slice va (NE + 1) vc] rfl cp wK.out (by kernel_rfl) rfl (by intro u hu; simp at hu; rcases hu with rfl | rfl | rfl | rfl | rfl; exact xz.out.ones.1; exact xz.out.ones.2.1; exact wj.out.1; exact wj.out.2; rfl) ?_; intro w20 hs20; have vq := Eh hs20; clear hs20 wK))
   refine bodyPost_ret (eL rfl _ _ rfl (aG (vq.out.blk 0 rfl))) rfl ?_
   rw [HR.out]
   have hw7 := (xz.out.mono vB.out).mono vv.out
   exact ⟨_, D2, rfl, vB.out.trans vv.out, DocW.d ⟨hw7.t, hw7.m, yK.out.mono vv.out, ⟨es ++ [e], xp.out, by rw [List.map_append, zo.out]; rfl⟩⟩, vq.out.drop.drop.drop⟩
end Go.Proofs.YtgljdkjepdknnaaGreatDoor
