/- The document's locks: how many; asking (ratlineref11.Locks.Len, Ask). (printed by genrk6.py) -/
import Derived.Test.YtgljdkjepdknnaaGreatDoorMT36
import Derived.Test.YtgljdkjepdknnaaGreatDoorMT40
import Derived.Test.YtgljdkjepdknnaaGreatDoorMT31
set_option maxHeartbeats 64000000
namespace Go.Proofs.YtgljdkjepdknnaaGreatDoor
open Go.ChangeShapes Go.WideShapes Go.ChangeAt Go.RowKit
set_option maxRecDepth 100000
set_option linter.unusedSimpArgs false
theorem ee {fn : Func} {a b c : Tmp} {ty : TypeId} (h : fn.results = #[.cell a ty, .tmp b, .tmp c]) (tmps : Array Value) (w : World) {g : Nat} {cs : Array Value} (ha : tmps.getD a undef = .pointer (some ⟨g, 0, none⟩)) (hl : (loadVar ty ⟨g, 0, none⟩).run Tryz.prog w = .ok (.agg cs) w) :
  (results fn tmps).run Tryz.prog w = .ok (.tuple #[.agg cs, tmps.getD b undef, tmps.getD c undef]) w := by
 have ha' : tmps[a]?.getD undef = .pointer (some ⟨g, 0, none⟩) := by simpa using ha
 simp [results, h]
 rw [ha']
 simp [asAddr, hl]
theorem kO (w : World) (e : ReaE) : (Instr.build bY #[(0, .int .i64 e.o), (1, .agg e.x.cells.toArray), (2, .int .i64 e.dur), (3, .int .i64 e.hand)]).run Tryz.prog w = .ok (.agg (aX e).toArray) w := run_build w _ _ _ (by kernel_rfl)
theorem fk {w : World} {o : Oper} {a : Act} {ops : Array Oper} {rest : List Oper} {Q : Exit → Act → World → Prop} (hgd : o.guard = none) (xo xc xm xh : Operand) (ho : o.op = .build bY #[(0, xo), (1, xc), (2, xm), (3, xh)]) (e : ReaE) (h1 : a.eval xo = .int .i64 e.o) (h2 : a.eval xc = .agg e.x.cells.toArray) (h3 : a.eval xm = .int .i64 e.dur) (h4 : a.eval xh = .int .i64 e.hand)
  (h : wpList Tryz.prog ops Q rest (a.put o.dst (.agg (aX e).toArray)) w) : wpList Tryz.prog ops Q (o :: rest) a w :=
 wpList_plain hgd fun _ hK => by
  have hrun := kO w e
  unfold Oper.wp execOp
  simp only [ho, List.map_toArray, List.map_cons, List.map_nil, h1, h2, h3, h4, Sem.run_bind, Sem.run_pure, Result.andThen_ok, hrun]
  exact hK _ _ h
theorem ph {dur hand : Int} (h : ¬ (dur = 1 ∨ dur = 3 ∨ dur = 2 ∧ 1 ≤ hand ∧ hand ≤ 2)) : cj dur hand = 0 := by
 unfold cj
 rw [if_neg (by omega), if_neg (by omega), if_neg (by omega)]
theorem se {dur hand : Int} (h : dur = 1 ∨ dur = 3 ∨ dur = 2 ∧ 1 ≤ hand ∧ hand ≤ 2) : ¬ cj dur hand = 0 := by
 unfold cj
 split
 ·omega
 ·split
  ·omega
  ·rw [if_pos (by omega)]
   split <;> omega
def f9 (d : DocM) : Nat := d.q.held.length + d.q.waits.length
noncomputable def f8 (d : DocM) (o : Int) (c : Clm) (dur hand : Int) : DocM × Bool × Int :=
 if !bK d.ts c || decide (cj dur hand = 0) then (d, false, 111) else
 if (aS d.q o).2 then (d, false, 110) else
 if !(aE d.q o).any (fun h => RC.same h c) && decide (d.room ≤ (f9 d : Int)) then (d, false, 62) else
 (⟨d.ts, d.room, (aV RC d.q o c true).1, d.r ++ [⟨o, c, dur, if dur = 2 then hand else 0⟩]⟩, (aV RC d.q o c true).2, 0)
def AskDGot (B : World) (D : PH) (l : List HP) (R : DocM × Bool × Int) (r : Ending) (w' : World) : Prop := ∃ (v : Value) (D' : PH), r = .returned (.tuple #[v, .bool R.2.1, .int .i64 R.2.2]) ∧ PH.le D D' ∧ DocD D' v R.1 ∧ Sat B D' w' l
theorem rLen_ok {B w : World} {D : PH} {l : List HP} {v : Value} {d : DocM} (hd : DocD D v d) (hm : f9 d ≤ 1000000) (s : Sat B D w l) :
  Calls Tryz.prog 31 #[v] w fun r w' => r = .returned (.int .i64 (f9 d)) ∧ Sat B D w' l := by
 obtain ⟨ta, ha, wa, ra, tc, hcc, wc, rc, hs, ws, es, rfl, _, _, _, hhq, hwq, _, _, hs1⟩ := kE hd s
 have hn : f9 d = hs.length + ws.length := by unfold f9; rw [← hhq, ← hwq, List.length_map, List.length_map]
 obtain ⟨q0, q1, q2, q3, q4, qf⟩ := aZ (hs1.blk 0 rfl)
 have sS := BO hs1
 have hm2 : hs.length + ws.length ≤ 1000000 := by omega
 rw [hn]
 clear hd s hs1 hhq hwq hn hm
 generalize hs.length = n1 at *
 generalize ws.length = n2 at *
 generalize es.length = n3 at *
 go_enter Tryz.func31, Tryz.ntmps31
 go_wp2_with fail
 go_ret
 exact ⟨by first | rfl | (rw [Int.natCast_add]) | (congr 2; go_num), sS.out.drop⟩
theorem sy {B w : World} {D : PH} {l : List HP} {v : Value} {d : DocM} (o : Int) (c : ClmE) (dur hand : Int) (hd : DocD D v d) (hok : QOk d.q) (hc : ClOk D c) (hfit : bS c.c) (hsm : ClmSm 1000000 c.c) (hnd : c.pr.p.nodes.length ≤ 1000000) (hqs : ∀ e ∈ d.q.held, ClmSm 1000000 e.c) (hM : d.r.length ≤ 1000) (hQ : f9 d ≤ 1000) (s : Sat B D w l) :
  Calls Tryz.prog 62 #[v, .int .i64 o, .agg c.cells.toArray, .int .i64 dur, .int .i64 hand] w (AskDGot B D l (f8 d o c.c dur hand)) := by
 obtain ⟨i0, hi, hz0, hz1, hz2⟩ := info_parts iC
 have HI := BO (And.intro hi (And.intro hz0 (And.intro hz1 hz2)))
 obtain ⟨y0, y1, y2, y3, y4, rfl, h1⟩ := eW hd
 have H1 := BO h1
 have vj := BO (kB hd)
 obtain ⟨W1, hW1, hs1⟩ := dJ s #[y0, y1, y2, y3, y4] c.cells.toArray cd aP tCl aP
 have sR := BO hW1
 have sS := BO hs1
 have HD := BO hd
 have HC := BO hc
 have tJ := BO (And.intro hok (And.intro hfit (And.intro hsm (And.intro hqs (And.intro hM hQ)))))
 have wq := BO (rMay_ok (kB hd).t c hc hnd hs1)
 have tg := BO (ay (ai (hs1.blk 1 rfl)))
 obtain ⟨q0, q1, q2, q3, q4, qf⟩ := aZ (hs1.blk 0 rfl)
 obtain ⟨rr, hrr⟩ : ∃ rr, rr = f8 d o c.c dur hand := ⟨_, rfl⟩
 rw [← hrr]
 have tl := BO hrr
 obtain ⟨mk, hmk⟩ : ∃ mk, bK d.ts c.c = mk := ⟨_, rfl⟩
 rw [hmk] at wq
 have Aw := BO hmk
 obtain ⟨e, he⟩ : ∃ e : ReaE, e = ⟨o, c, dur, if dur = 2 then hand else 0⟩ := ⟨_, rfl⟩
 have HE := BO he
 clear hd s hs1 hW1 hc hok hfit hsm hqs hM hQ h1 hrr hmk hnd he hi hz0 hz1 hz2
 have hdur : ((dur = 2 ∧ hand < 1) ∨ (dur = 2 ∧ ¬ hand < 1 ∧ hand > 2) ∨ ((dur != 1) = true ∧ (dur != 3) = true ∧ (dur != 2) = true)) ∨ (dur = 1 ∨ dur = 3 ∨ (dur = 2 ∧ ¬ hand < 1 ∧ ¬ hand > 2)) := by simp only [bne_iff_ne, ne_eq]; omega
 go_enter Tryz.func62, Tryz.ntmps62
 go_upto_region 1 with fail
 rw [← sR.out]
 clear sR
 generalize w.heap.size + 1 + 1 = b3 at *
 generalize w.heap.size + 1 = b2 at *
 generalize w.heap.size = b1 at *
 go_upto_region 2 with (first | (refine ag rfl _ _ rfl _ _ rfl _ tg.out ?_) | (go_at_call 104; refine wq.out.mono ?_; rintro e2 w2 ⟨rfl, hs2⟩; have sX := BO hs2; clear hs2 wq sS tg q0 q1 q2 q3 q4 qf))
 cases mk
 ·have HR := BO (show rr = (d, false, 111) by rw [tl.out]; unfold f8; rw [Aw.out]; rfl)
  have sU := BO (sX.out.front 2 rfl)
  have tm := BO (aF (sU.out.blk 1 rfl))
  clear hdur HE tl
  go_wp2_with (first | (refine ag rfl _ _ rfl _ _ rfl [_, _, _, _, _] tm.out ?_) | (refine aq rfl _ _ _ rfl aP b3 rfl [y0, y1, y2, y3, y4] rfl cd sU.out (by kernel_rfl) rfl H1.out ?_; intro w9 hs9; have ti := BO hs9; clear hs9 sU))
  refine bodyPost_ret (ee rfl _ _ rfl (aF (ti.out.blk 0 rfl))) rfl ?_
  rw [HR.out]
  exact ⟨_, D, rfl, PH.le.refl _, HD.out, ti.out.drop.drop.drop⟩
 rcases hdur with hdur | hdur
 ·have HR := BO (show rr = (d, false, 111) by
   rw [tl.out]; unfold f8
   rw [ph (dur := dur) (hand := hand) (by simp only [bne_iff_ne, ne_eq] at hdur; omega)]
   simp)
  have sU := BO (sX.out.front 2 rfl)
  have tm := BO (aF (sU.out.blk 1 rfl))
  clear HE tl
  rcases hdur with ⟨rfl, h1⟩ | ⟨rfl, h1, h2⟩ | ⟨h1, h2, h3⟩
  all_goals
   go_wp2_with (first | (refine ag rfl _ _ rfl _ _ rfl [_, _, _, _, _] tm.out ?_) | (refine aq rfl _ _ _ rfl aP b3 rfl [y0, y1, y2, y3, y4] rfl cd sU.out (by kernel_rfl) rfl H1.out ?_; intro w9 hs9; have ti := BO hs9; clear hs9 sU))
   refine bodyPost_ret (ee rfl _ _ rfl (aF (ti.out.blk 0 rfl))) rfl ?_
   rw [HR.out]
   exact ⟨_, D, rfl, PH.le.refl _, HD.out, ti.out.drop.drop.drop⟩
 have HG := BO (show rr = if (aS d.q o).2 then (d, false, 110) else if !(aE d.q o).any (fun h => RC.same h c.c) && decide (d.room ≤ (f9 d : Int)) then (d, false, 62) else (⟨d.ts, d.room, (aV RC d.q o c.c true).1, d.r ++ [hJ e]⟩, (aV RC d.q o c.c true).2, 0) by
  rw [tl.out, HE.out]; unfold f8
  rw [Aw.out, decide_eq_false (se (dur := dur) (hand := hand) (by omega))]
  rfl)
 clear tl Aw
 rcases hdur with rfl | rfl | ⟨rfl, h1, h2⟩
 all_goals
  go_upto_region 4 with fail
  have uJ := BO (eM o vj.out.q sX.out)
  obtain ⟨q0, q1, q2, q3, q4, qf⟩ := aZ (sX.out.blk 0 rfl)
  go_upto_region 5 with (first | (go_at_call 32; refine uJ.out.mono ?_; rintro e4 w4 ⟨z, rfl, hzc, hzo, _, hs4⟩; have xN := BO hzo; have sY := BO (hs4.alloc z.cells.toArray tCl); clear hzc hzo hs4 uJ sX q0 q1 q2 q3 q4 qf) | (refine ax rfl _ _ _ rfl z.cells _ _ rfl rfl (by kernel_rfl) rfl (ClmE.one z) ?_))
  obtain ⟨W5, hW5, hs5⟩ := Sat.hide sY.out
  rw [← hW5]
  have sV := BO hs5.drop
  clear hW5 sY hs5
  obtain ⟨wb, hwb⟩ : ∃ wb, (aS d.q o).2 = wb := ⟨_, rfl⟩
  rw [hwb] at HG ⊢
  clear hwb
  cases wb
  rotate_left
  ·have HR := BO (show rr = (d, false, 110) by rw [HG.out]; rfl)
   have sU := BO (sV.out.front 2 rfl)
   have tm := BO (aF (sU.out.blk 1 rfl))
   clear sV HE
   go_wp2_with (first | (refine ag rfl _ _ rfl _ _ rfl [_, _, _, _, _] tm.out ?_) | (refine aq rfl _ _ _ rfl aP b3 rfl [y0, y1, y2, y3, y4] rfl cd sU.out (by kernel_rfl) rfl H1.out ?_; intro w9 hs9; have ti := BO hs9; clear hs9 sU))
   refine bodyPost_ret (ee rfl _ _ rfl (aF (ti.out.blk 0 rfl))) rfl ?_
   rw [HR.out]
   exact ⟨_, D, rfl, PH.le.refl _, HD.out, ti.out.drop.drop.drop⟩
  have zZ := BO (show rr = if !(aE d.q o).any (fun h => RC.same h c.c) && decide (d.room ≤ (f9 d : Int)) then (d, false, 62) else (⟨d.ts, d.room, (aV RC d.q o c.c true).1, d.r ++ [hJ e]⟩, (aV RC d.q o c.c true).2, 0) by rw [HG.out]; rfl)
  clear HG
  have tm := BO (aF (sV.out.blk 0 rfl))
  have tg := BO (ay (ai (sV.out.blk 1 rfl)))
  have yG := BO (oY o c HD.out HC.out (by have := tJ.out.2.2.2.2.2; unfold f9 at this; omega) sV.out)
  obtain ⟨hb, hhb⟩ : ∃ hb, (aE d.q o).any (fun h => RC.same h c.c) = hb := ⟨_, rfl⟩
  rw [hhb] at yG zZ
  clear hhb
  go_upto_region 8 with (first | (refine ag rfl _ _ rfl _ _ rfl [_, _, _, _, _] tm.out ?_) | (refine ag rfl _ _ rfl _ _ rfl _ tg.out ?_) | (go_at_call 100; refine yG.out.mono ?_; rintro e6 w6 ⟨rfl, hs6⟩; have s0 := BO hs6; clear hs6 yG sV tm tg))
  have tm := BO (aF (w := w6.drew) (s0.out.drew.blk 0 rfl))
  obtain ⟨q0, q1, q2, q3, q4, qf⟩ := aZ (s0.out.drew.blk 0 rfl)
  rw [vj.out.m] at q1
  cases hb
  ·have tE := BO (rLen_ok HD.out (by have := tJ.out.2.2.2.2.2; omega) s0.out.drew)
   refine af [(0, false, 4), (1, false, 4), (2, false, 4), (3, false, 4), (5, false, 999), (6, false, 999), (4, true, 0), (7, false, 999), (8, false, 999)] (by kernel_rfl) (by kernel_rfl) ?_
   iterate 3 (refine ae rfl rfl (fun K hK => ?_); (first | ((refine aj _ _ rfl _ _ rfl _ tm.out ?_); go_simp) | go_simp); refine hK _ ?_; clear hK K)
   iterate 3 (first | (refine am rfl rfl ?_; simp only [Act.put, BP, BQ, BR, BS, BT, BU]) | (refine ak rfl rfl (fun K hK => ?_); (first | ((refine aj _ _ rfl _ _ rfl _ tm.out ?_); go_simp) | go_simp); refine hK _ ?_; clear hK K))
   refine al rfl ?_
   refine aw rfl (fun K hK => ?_)
   go_simp
   refine tE.out.mono ?_
   rintro e8 w8 ⟨rfl, hs8⟩
   have tj := BO hs8
   clear hs8 tE tm s0 q0 q1 q2 q3 q4 qf
   obtain ⟨q0, q1, q2, q3, q4, qf⟩ := aZ (tj.out.blk 0 rfl)
   rw [vj.out.m] at q1
   refine hK _ _ ?_
   clear hK K
   refine wpList_nil ?_
   refine And.intro ?_ ?_
   ·go_simp
   first | (refine am rfl rfl ?_; simp only [Act.put, BP, BQ, BR, BS, BT, BU]) | (refine ak rfl rfl (fun K hK => ?_); (first | ((refine aj _ _ rfl _ _ rfl _ tm.out ?_); go_simp) | go_simp); refine hK _ ?_; clear hK K)
   refine ae rfl rfl (fun K hK => ?_); (first | ((refine aj _ _ rfl _ _ rfl _ tm.out ?_); go_simp) | go_simp); refine hK _ ?_; clear hK K
   refine ap ?_
   by_cases hrm : (f9 d : Int) ≥ d.room
   ·have HR := BO (show rr = (d, false, 62) by rw [zZ.out, decide_eq_true (show d.room ≤ (f9 d : Int) from hrm)]; rfl)
    have sU := BO (tj.out.front 2 rfl)
    have tm := BO (aF (sU.out.blk 1 rfl))
    clear tj HE q0 q1 q2 q3 q4 qf
    go_wp2_with (first | (refine ag rfl _ _ rfl _ _ rfl [_, _, _, _, _] tm.out ?_) | (refine aq rfl _ _ _ rfl aP b3 rfl [y0, y1, y2, y3, y4] rfl cd sU.out (by kernel_rfl) rfl H1.out ?_; intro w9 hs9; have ti := BO hs9; clear hs9 sU))
    refine bodyPost_ret (ee rfl _ _ rfl (aF (ti.out.blk 0 rfl))) rfl ?_
    rw [HR.out]
    exact ⟨_, D, rfl, PH.le.refl _, HD.out, ti.out.drop.drop.drop⟩
   ·have HR := BO (show rr = (⟨d.ts, d.room, (aV RC d.q o c.c true).1, d.r ++ [hJ e]⟩, (aV RC d.q o c.c true).2, 0) by rw [zZ.out, decide_eq_false (show ¬ d.room ≤ (f9 d : Int) from hrm)]; rfl)
    have uv := BO tj.out
    clear tj q0 q1 q2 q3 q4 qf
    go_upto_region 10 with fail
    clear hrm
    have tg := BO (ay (ai (uv.out.blk 1 rfl)))
    have xK := BO (kq o c false tJ.out.1 vj.out.q HC.out tJ.out.2.1 tJ.out.2.2.1 tJ.out.2.2.2.1 (by have := tJ.out.2.2.2.2.2; unfold f9 at this; omega) (by have := tJ.out.2.2.2.2.2; unfold f9 at this; omega) uv.out)
    obtain ⟨q0, q1, q2, q3, q4, qf⟩ := aZ (uv.out.blk 0 rfl)
    go_upto_region 11 with (first | (refine ag rfl _ _ rfl _ _ rfl _ tg.out ?_) | (go_at_call 102; refine xK.out.mono ?_; rintro ea wa ⟨v7, D7, rfl, hle7, hq7, hs7⟩; obtain ⟨hv7, wv7, rfl, o7, p7⟩ := kS hq7; have tq := BO hle7; have wg := BO hq7; have tQ := BO (And.intro o7 p7); have td := BO (hs7.alloc #[hv7, wv7] tRq); clear hle7 hq7 o7 p7 hs7 xK uv tg q0 q1 q2 q3 q4 qf) | (refine ax rfl _ _ _ rfl [hv7, wv7] _ _ rfl rfl (by kernel_rfl) rfl (by intro u hu; simp at hu; rcases hu with rfl | rfl; exact tQ.out.1; exact tQ.out.2) ?_))
    obtain ⟨Wb, hWb, hsb⟩ := Sat.hide td.out
    rw [← hWb]
    clear hWb td
    generalize wa.heap.size = bq at hsb ⊢
    have tL := BO (bi (ai (cs := [hv7, wv7]) (hsb.blk 0 rfl)))
    have ux := BO ((hsb.front 1 rfl))
    clear hsb
    go_upto_region 12 with (first | (refine ag rfl _ _ rfl _ _ rfl [_, _] tL.out ?_) | (refine bd rfl _ _ _ rfl aP b1 2 rfl [hv7, wv7] rfl [y0, y1, y2, y3, y4] ux.out (by kernel_rfl) (by simp) (by intro u hu; simp at hu; rcases hu with rfl | rfl; exact tQ.out.1; exact tQ.out.2) ?_; intro wc hsc; have wt := BO (show Sat B D7 wc (blk b1 #[y0, y1, hv7, wv7, y4] aP :: _) from hsc); clear hsc ux tL))
    obtain ⟨es, hr, hrr⟩ := vj.out.r
    have hel : es.length ≤ 1000 := by rw [← List.length_map (f := hJ), hrr]; exact tJ.out.2.2.2.2.1
    have wL := BO hrr
    have hr7 := hr.mono tq.out
    have zD := BO hr7.2
    have uL := BO (((wt.out.front 1 rfl).drop).own_nil bY 19)
    have s5 := BO (hr7.1.rd uL.out)
    have xy := BO (iM es)
    obtain ⟨q0, q1, q2, q3, q4, qf⟩ := aZ (uL.out.blk 1 rfl)
    clear hr hrr hr7 wt
    generalize hNE : es.length = NE at *
    have uU := BO hNE
    clear hNE
    go_upto_region 16 with (at_builtin; refine ar _ rfl _ _ fy rfl bY i0 _ 19 208 Tryz.underlying59 HI.out.1 HI.out.2.1 HI.out.2.2.1 HI.out.2.2.2 rfl _ 0 _ rfl uL.out _ NE _ rfl s5.out xy.out (by unfold maxLen; omega) (by omega) ?_; intro v13 w13 hs13 h13; have tH := BO hs13; clear hs13 h13 uL s5 q0 q1 q2 q3 q4 qf)
    have ub := BO (show Sat B D7 w13 (aJ bY 19 v13 NE (es.flatMap aX) :: _) from by have h := tH.out; rw [Nat.zero_add, List.nil_append] at h; exact h)
    have tg := BO (ay (ai (ub.out.blk 2 rfl)))
    have tP := BO ((ub.out.alloc (aX e).toArray bY).front 1 rfl)
    have s5 := BO (aT (size := 19) (n := 1) (tP.out.blk 1 rfl) (by simp [dg]) (by unfold maxLen; omega))
    clear tH ub
    go_upto_region 17 with (first | (refine ag rfl _ _ rfl _ _ rfl _ tg.out ?_) | (refine fk rfl _ _ _ _ rfl e (by rw [HE.out]; rfl) (by rw [HE.out]; rfl) (by rw [HE.out]; rfl) (by rw [HE.out]; rfl) ?_) | (refine aC rfl _ _ rfl bY i0 _ (aX e) rfl Tryz.underlying59 HI.out.1 HI.out.2.1 (HI.out.2.2.1.trans rfl) (by rw [dg]; decide) (by rw [dg]; decide) ?_) | (at_builtin; refine ar _ rfl _ _ fy rfl bY i0 _ 19 208 Tryz.underlying59 HI.out.1 HI.out.2.1 HI.out.2.2.1 HI.out.2.2.2 rfl _ NE _ rfl tP.out _ 1 _ rfl s5.out (by simpa using ju e) (by unfold maxLen; omega) (by omega) ?_; intro v16 w16 hs16 h16; have tS := BO hs16; clear hs16 h16 tP s5 tg))
    obtain ⟨va, vc, rfl⟩ := tS.out.own_shape
    have tM := BO (show Sat B D7 w16 (blk b1 #[y0, y1, hv7, wv7, y4] aP :: gS (.slice va (NE + 1) vc) (es ++ [e]) :: blk b2 c.cells.toArray tCl :: blk b3 cd aP :: l) from by
     show Sat B D7 w16 (_ :: aJ bY 19 (.slice va (NE + 1) vc) (es ++ [e]).length ((es ++ [e]).flatMap aX) :: _)
     rw [List.length_append, List.flatMap_append, uU.out]
     have h := ((tS.out.front 1 rfl).drop).front 1 rfl
     simpa using h)
    have vg := BO (Sat.set5e tM.out (.slice va (NE + 1) vc))
    obtain ⟨q0, q1, q2, q3, q4, qf⟩ := aZ (tM.out.blk 0 rfl)
    go_upto_region 18 with fail
    obtain ⟨Wd, hWd, hsd⟩ := Sat.hide vg.out
    rw [← hWd]
    clear hWd vg tM tS q0 q1 q2 q3 q4 qf
    obtain ⟨D2, hle2, hE2, hs19⟩ := eO (hsd.front 1 rfl) (fun x hx => by
     rcases List.mem_append.1 hx with hx | hx
     ·exact zD.out x hx
     ·rw [List.mem_singleton] at hx
      rw [hx, HE.out]
      exact HC.out.mono tq.out)
    have tm := BO (aF (hs19.blk 0 rfl))
    have uK := BO (hs19.front 2 rfl)
    have tr := BO hle2
    have vk := BO hE2
    clear hsd hs19 hE2 hle2
    go_wp2_with (first | (refine ag rfl _ _ rfl _ _ rfl [_, _, _, _, _] tm.out ?_) | (refine aq rfl _ _ _ rfl aP b3 rfl [y0, y1, hv7, wv7, .slice va (NE + 1) vc] rfl cd uK.out (by kernel_rfl) rfl (by intro u hu; simp at hu; rcases hu with rfl | rfl | rfl | rfl | rfl; exact vj.out.ones.1; exact vj.out.ones.2.1; exact tQ.out.1; exact tQ.out.2; rfl) ?_; intro w20 hs20; have te := BO hs20; clear hs20 uK))
    refine bodyPost_ret (ee rfl _ _ rfl (aF (te.out.blk 0 rfl))) rfl ?_
    rw [HR.out]
    have hw7 := (vj.out.mono tq.out).mono tr.out
    exact ⟨_, D2, rfl, tq.out.trans tr.out, DocW.d ⟨hw7.t, hw7.m, wg.out.mono tr.out, ⟨es ++ [e], vk.out, by rw [List.map_append, wL.out]; rfl⟩⟩, te.out.drop.drop.drop⟩
  ·have HR := BO (show rr = (⟨d.ts, d.room, (aV RC d.q o c.c true).1, d.r ++ [hJ e]⟩, (aV RC d.q o c.c true).2, 0) by rw [zZ.out]; rfl)
   have uv := BO s0.out.drew
   refine af [(0, false, 4), (1, false, 4), (2, false, 4), (3, false, 4), (5, false, 999), (6, false, 999), (4, true, 0), (7, false, 999), (8, false, 999)] (by kernel_rfl) (by kernel_rfl) ?_
   iterate 3 (refine ae rfl rfl (fun K hK => ?_); go_simp; refine hK _ ?_; clear hK K)
   iterate 3 (first | (refine am rfl rfl ?_; simp only [Act.put, BP, BQ, BR, BS, BT, BU]) | (refine ak rfl rfl (fun K hK => ?_); go_simp; refine hK _ ?_; clear hK K))
   refine al rfl ?_
   refine bI rfl ?_
   simp only [Act.put, BP, BQ, BR]
   refine wpList_nil ?_
   refine And.intro ?_ ?_
   ·go_simp
   first | (refine am rfl rfl ?_; simp only [Act.put, BP, BQ, BR, BS, BT, BU]) | (refine ak rfl rfl (fun K hK => ?_); go_simp; refine hK _ ?_; clear hK K)
   refine ae rfl rfl (fun K hK => ?_); go_simp; refine hK _ ?_; clear hK K
   refine ap ?_
   clear s0 tm q0 q1 q2 q3 q4 qf
   have tg := BO (ay (ai (uv.out.blk 1 rfl)))
   have xK := BO (kq o c false tJ.out.1 vj.out.q HC.out tJ.out.2.1 tJ.out.2.2.1 tJ.out.2.2.2.1 (by have := tJ.out.2.2.2.2.2; unfold f9 at this; omega) (by have := tJ.out.2.2.2.2.2; unfold f9 at this; omega) uv.out)
   obtain ⟨q0, q1, q2, q3, q4, qf⟩ := aZ (uv.out.blk 0 rfl)
   go_upto_region 11 with (first | (refine ag rfl _ _ rfl _ _ rfl _ tg.out ?_) | (go_at_call 102; refine xK.out.mono ?_; rintro ea wa ⟨v7, D7, rfl, hle7, hq7, hs7⟩; obtain ⟨hv7, wv7, rfl, o7, p7⟩ := kS hq7; have tq := BO hle7; have wg := BO hq7; have tQ := BO (And.intro o7 p7); have td := BO (hs7.alloc #[hv7, wv7] tRq); clear hle7 hq7 o7 p7 hs7 xK uv tg q0 q1 q2 q3 q4 qf) | (refine ax rfl _ _ _ rfl [hv7, wv7] _ _ rfl rfl (by kernel_rfl) rfl (by intro u hu; simp at hu; rcases hu with rfl | rfl; exact tQ.out.1; exact tQ.out.2) ?_))
   obtain ⟨Wb, hWb, hsb⟩ := Sat.hide td.out
   rw [← hWb]
   clear hWb td
   generalize wa.heap.size = bq at hsb ⊢
   have tL := BO (bi (ai (cs := [hv7, wv7]) (hsb.blk 0 rfl)))
   have ux := BO ((hsb.front 1 rfl))
   clear hsb
   go_upto_region 12 with (first | (refine ag rfl _ _ rfl _ _ rfl [_, _] tL.out ?_) | (refine bd rfl _ _ _ rfl aP b1 2 rfl [hv7, wv7] rfl [y0, y1, y2, y3, y4] ux.out (by kernel_rfl) (by simp) (by intro u hu; simp at hu; rcases hu with rfl | rfl; exact tQ.out.1; exact tQ.out.2) ?_; intro wc hsc; have wt := BO (show Sat B D7 wc (blk b1 #[y0, y1, hv7, wv7, y4] aP :: _) from hsc); clear hsc ux tL))
   obtain ⟨es, hr, hrr⟩ := vj.out.r
   have hel : es.length ≤ 1000 := by rw [← List.length_map (f := hJ), hrr]; exact tJ.out.2.2.2.2.1
   have wL := BO hrr
   have hr7 := hr.mono tq.out
   have zD := BO hr7.2
   have uL := BO (((wt.out.front 1 rfl).drop).own_nil bY 19)
   have s5 := BO (hr7.1.rd uL.out)
   have xy := BO (iM es)
   obtain ⟨q0, q1, q2, q3, q4, qf⟩ := aZ (uL.out.blk 1 rfl)
   clear hr hrr hr7 wt
   generalize hNE : es.length = NE at *
   have uU := BO hNE
   clear hNE
   go_upto_region 16 with (at_builtin; refine ar _ rfl _ _ fy rfl bY i0 _ 19 208 Tryz.underlying59 HI.out.1 HI.out.2.1 HI.out.2.2.1 HI.out.2.2.2 rfl _ 0 _ rfl uL.out _ NE _ rfl s5.out xy.out (by unfold maxLen; omega) (by omega) ?_; intro v13 w13 hs13 h13; have tH := BO hs13; clear hs13 h13 uL s5 q0 q1 q2 q3 q4 qf)
   have ub := BO (show Sat B D7 w13 (aJ bY 19 v13 NE (es.flatMap aX) :: _) from by have h := tH.out; rw [Nat.zero_add, List.nil_append] at h; exact h)
   have tg := BO (ay (ai (ub.out.blk 2 rfl)))
   have tP := BO ((ub.out.alloc (aX e).toArray bY).front 1 rfl)
   have s5 := BO (aT (size := 19) (n := 1) (tP.out.blk 1 rfl) (by simp [dg]) (by unfold maxLen; omega))
   clear tH ub
   go_upto_region 17 with (first | (refine ag rfl _ _ rfl _ _ rfl _ tg.out ?_) | (refine fk rfl _ _ _ _ rfl e (by rw [HE.out]; rfl) (by rw [HE.out]; rfl) (by rw [HE.out]; rfl) (by rw [HE.out]; rfl) ?_) | (refine aC rfl _ _ rfl bY i0 _ (aX e) rfl Tryz.underlying59 HI.out.1 HI.out.2.1 (HI.out.2.2.1.trans rfl) (by rw [dg]; decide) (by rw [dg]; decide) ?_) | (at_builtin; refine ar _ rfl _ _ fy rfl bY i0 _ 19 208 Tryz.underlying59 HI.out.1 HI.out.2.1 HI.out.2.2.1 HI.out.2.2.2 rfl _ NE _ rfl tP.out _ 1 _ rfl s5.out (by simpa using ju e) (by unfold maxLen; omega) (by omega) ?_; intro v16 w16 hs16 h16; have tS := BO hs16; clear hs16 h16 tP s5 tg))
   obtain ⟨va, vc, rfl⟩ := tS.out.own_shape
   have tM := BO (show Sat B D7 w16 (blk b1 #[y0, y1, hv7, wv7, y4] aP :: gS (.slice va (NE + 1) vc) (es ++ [e]) :: blk b2 c.cells.toArray tCl :: blk b3 cd aP :: l) from by
    show Sat B D7 w16 (_ :: aJ bY 19 (.slice va (NE + 1) vc) (es ++ [e]).length ((es ++ [e]).flatMap aX) :: _)
    rw [List.length_append, List.flatMap_append, uU.out]
    have h := ((tS.out.front 1 rfl).drop).front 1 rfl
    simpa using h)
   have vg := BO (Sat.set5e tM.out (.slice va (NE + 1) vc))
   obtain ⟨q0, q1, q2, q3, q4, qf⟩ := aZ (tM.out.blk 0 rfl)
   go_upto_region 18 with fail
   obtain ⟨Wd, hWd, hsd⟩ := Sat.hide vg.out
   rw [← hWd]
   clear hWd vg tM tS q0 q1 q2 q3 q4 qf
   obtain ⟨D2, hle2, hE2, hs19⟩ := eO (hsd.front 1 rfl) (fun x hx => by
    rcases List.mem_append.1 hx with hx | hx
    ·exact zD.out x hx
    ·rw [List.mem_singleton] at hx
     rw [hx, HE.out]
     exact HC.out.mono tq.out)
   have tm := BO (aF (hs19.blk 0 rfl))
   have uK := BO (hs19.front 2 rfl)
   have tr := BO hle2
   have vk := BO hE2
   clear hsd hs19 hE2 hle2
   go_wp2_with (first | (refine ag rfl _ _ rfl _ _ rfl [_, _, _, _, _] tm.out ?_) | (refine aq rfl _ _ _ rfl aP b3 rfl [y0, y1, hv7, wv7, .slice va (NE + 1) vc] rfl cd uK.out (by kernel_rfl) rfl (by intro u hu; simp at hu; rcases hu with rfl | rfl | rfl | rfl | rfl; exact vj.out.ones.1; exact vj.out.ones.2.1; exact tQ.out.1; exact tQ.out.2; rfl) ?_; intro w20 hs20; have te := BO hs20; clear hs20 uK))
   refine bodyPost_ret (ee rfl _ _ rfl (aF (te.out.blk 0 rfl))) rfl ?_
   rw [HR.out]
   have hw7 := (vj.out.mono tq.out).mono tr.out
   exact ⟨_, D2, rfl, tq.out.trans tr.out, DocW.d ⟨hw7.t, hw7.m, wg.out.mono tr.out, ⟨es ++ [e], vk.out, by rw [List.map_append, wL.out]; rfl⟩⟩, te.out.drop.drop.drop⟩
end Go.Proofs.YtgljdkjepdknnaaGreatDoor
