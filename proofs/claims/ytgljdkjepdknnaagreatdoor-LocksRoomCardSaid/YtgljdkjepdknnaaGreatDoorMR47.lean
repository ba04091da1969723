/- The document's locks: how many; asking (ratlineref11.Locks.Len, Ask). (printed by genrk6.py) -/
import Derived.Test.YtgljdkjepdknnaaGreatDoorMR42
import Derived.Test.YtgljdkjepdknnaaGreatDoorMR46
import Derived.Test.YtgljdkjepdknnaaGreatDoorMR37
namespace Go.Proofs.YtgljdkjepdknnaaGreatDoor
open Go.ChangeShapes Go.WideShapes Go.ChangeAt Go.RowKit
set_option maxRecDepth 100000
set_option linter.unusedSimpArgs false

theorem results_c3 {fn : Func} {a b c : Tmp} {ty : TypeId} (h : fn.results = #[.cell a ty, .tmp b, .tmp c]) (tmps : Array Value) (w : World) {g : Nat} {cs : Array Value} (ha : tmps.getD a undef = .pointer (some ⟨g, 0, none⟩)) (hl : (loadVar ty ⟨g, 0, none⟩).run Tryz.prog w = .ok (.agg cs) w) :
  (results fn tmps).run Tryz.prog w = .ok (.tuple #[.agg cs, tmps.getD b undef, tmps.getD c undef]) w := by
 have ha' : tmps[a]?.getD undef = .pointer (some ⟨g, 0, none⟩) := by simpa using ha
 simp [results, h]
 rw [ha']
 simp [asAddr, hl]
theorem run_build_rea (w : World) (e : ReaE) : (Instr.build tRea #[(0, .int .i64 e.o), (1, .agg e.x.cells.toArray), (2, .int .i64 e.dur), (3, .int .i64 e.hand)]).run Tryz.prog w = .ok (.agg (cellsE e).toArray) w := run_build w _ _ _ (by kernel_rfl)
theorem wpList_build_rea {w : World} {o : Oper} {a : Act} {ops : Array Oper} {rest : List Oper} {Q : Exit → Act → World → Prop} (hgd : o.guard = none) (xo xc xm xh : Operand) (ho : o.op = .build tRea #[(0, xo), (1, xc), (2, xm), (3, xh)]) (e : ReaE) (h1 : a.eval xo = .int .i64 e.o) (h2 : a.eval xc = .agg e.x.cells.toArray) (h3 : a.eval xm = .int .i64 e.dur) (h4 : a.eval xh = .int .i64 e.hand)
  (h : wpList Tryz.prog ops Q rest (a.put o.dst (.agg (cellsE e).toArray)) w) : wpList Tryz.prog ops Q (o :: rest) a w :=
 wpList_plain hgd fun _ hK => by
  have hrun := run_build_rea w e
  unfold Oper.wp execOp
  simp only [ho, List.map_toArray, List.map_cons, List.map_nil, h1, h2, h3, h4, Sem.run_bind, Sem.run_pure, Result.andThen_ok, hrun]
  exact hK _ _ h
theorem bit_bad {dur hand : Int} (h : ¬ (dur = 1 ∨ dur = 3 ∨ dur = 2 ∧ 1 ≤ hand ∧ hand ≤ 2)) : bitK dur hand = 0 := by
 unfold bitK
 rw [if_neg (by omega), if_neg (by omega), if_neg (by omega)]
theorem bit_good {dur hand : Int} (h : dur = 1 ∨ dur = 3 ∨ dur = 2 ∧ 1 ≤ hand ∧ hand ≤ 2) : ¬ bitK dur hand = 0 := by
 unfold bitK
 split
 ·omega
 ·split
  ·omega
  ·rw [if_pos (by omega)]
   split <;> omega
def lenD (d : DocM) : Nat := d.q.held.length + d.q.waits.length
noncomputable def askD (d : DocM) (o : Int) (c : Clm) (dur hand : Int) : DocM × Bool × Int :=
 if !mayK d.ts c || decide (bitK dur hand = 0) then (d, false, 111) else
 if (waitsQ d.q o).2 then (d, false, 110) else
 if !(holdsQ d.q o).any (fun h => RC.same h c) && decide (d.room ≤ (lenD d : Int)) then (d, false, 62) else
 (⟨d.ts, d.room, (askQ RC d.q o c true).1, d.r ++ [⟨o, c, dur, if dur = 2 then hand else 0⟩]⟩, (askQ RC d.q o c true).2, 0)
def AskDGot (B : World) (D : PH) (l : List HP) (R : DocM × Bool × Int) (r : Ending) (w' : World) : Prop := ∃ (v : Value) (D' : PH), r = .returned (.tuple #[v, .bool R.2.1, .int .i64 R.2.2]) ∧ PH.le D D' ∧ DocD D' v R.1 ∧ Sat B D' w' l
set_option maxHeartbeats 2000000 in
theorem rLen_ok {B w : World} {D : PH} {l : List HP} {v : Value} {d : DocM} (hd : DocD D v d) (hm : lenD d ≤ 1000000) (s : Sat B D w l) :
  Calls Tryz.prog 31 #[v] w fun r w' => r = .returned (.int .i64 (lenD d)) ∧ Sat B D w' l := by
 obtain ⟨ta, ha, wa, ra, tc, hcc, wc, rc, hs, ws, es, rfl, _, _, _, hhq, hwq, _, _, hs1⟩ := docBox hd s
 have hn : lenD d = hs.length + ws.length := by unfold lenD; rw [← hhq, ← hwq, List.length_map, List.length_map]
 obtain ⟨q0, q1, q2, q3, q4, qf⟩ := cells5v (hs1.blk 0 rfl)
 have HS1 := Lib.hid hs1
 have hm2 : hs.length + ws.length ≤ 1000000 := by omega
 rw [hn]
 clear hd s hs1 hhq hwq hn hm
 generalize hs.length = n1 at *
 generalize ws.length = n2 at *
 generalize es.length = n3 at *
 go_enter Tryz.func31, Tryz.ntmps31
 go_wp2_with fail
 go_ret
 exact ⟨by first | rfl | (rw [Int.natCast_add]) | (congr 2; go_num), HS1.out.drop⟩
set_option maxHeartbeats 16000000 in
theorem rkAsk_ok {B w : World} {D : PH} {l : List HP} {v : Value} {d : DocM} (o : Int) (c : ClmE) (dur hand : Int) (hd : DocD D v d) (hok : QOk d.q) (hc : ClOk D c) (hfit : ClmFit c.c) (hsm : ClmSm 1000000 c.c) (hnd : c.pr.p.nodes.length ≤ 1000000) (hqs : ∀ e ∈ d.q.held, ClmSm 1000000 e.c) (hM : d.r.length ≤ 1000) (hQ : lenD d ≤ 1000) (s : Sat B D w l) :
  Calls Tryz.prog 62 #[v, .int .i64 o, .agg c.cells.toArray, .int .i64 dur, .int .i64 hand] w (AskDGot B D l (askD d o c.c dur hand)) := by
 obtain ⟨i0, hi, hz0, hz1, hz2⟩ := info_parts infoRea
 have HI := Lib.hid (And.intro hi (And.intro hz0 (And.intro hz1 hz2)))
 obtain ⟨y0, y1, y2, y3, y4, rfl, h1⟩ := doc5 hd
 have H1 := Lib.hid h1
 have HDW := Lib.hid (docW hd)
 obtain ⟨W1, hW1, hs1⟩ := three_new s #[y0, y1, y2, y3, y4] c.cells.toArray zLkV tLkV tCl tLkV
 have HW1 := Lib.hid hW1
 have HS1 := Lib.hid hs1
 have HD := Lib.hid hd
 have HC := Lib.hid hc
 have HOK := Lib.hid (And.intro hok (And.intro hfit (And.intro hsm (And.intro hqs (And.intro hM hQ)))))
 have HMY := Lib.hid (rMay_ok (docW hd).t c hc hnd hs1)
 have HLC := Lib.hid (loadCl (blk_range (hs1.blk 1 rfl)))
 obtain ⟨q0, q1, q2, q3, q4, qf⟩ := cells5v (hs1.blk 0 rfl)
 obtain ⟨rr, hrr⟩ : ∃ rr, rr = askD d o c.c dur hand := ⟨_, rfl⟩
 rw [← hrr]
 have HRR := Lib.hid hrr
 obtain ⟨mk, hmk⟩ : ∃ mk, mayK d.ts c.c = mk := ⟨_, rfl⟩
 rw [hmk] at HMY
 have HMK := Lib.hid hmk
 obtain ⟨e, he⟩ : ∃ e : ReaE, e = ⟨o, c, dur, if dur = 2 then hand else 0⟩ := ⟨_, rfl⟩
 have HE := Lib.hid he
 clear hd s hs1 hW1 hc hok hfit hsm hqs hM hQ h1 hrr hmk hnd he hi hz0 hz1 hz2
 have hdur : ((dur = 2 ∧ hand < 1) ∨ (dur = 2 ∧ ¬ hand < 1 ∧ hand > 2) ∨ ((dur != 1) = true ∧ (dur != 3) = true ∧ (dur != 2) = true)) ∨ (dur = 1 ∨ dur = 3 ∨ (dur = 2 ∧ ¬ hand < 1 ∧ ¬ hand > 2)) := by simp only [bne_iff_ne, ne_eq]; omega
 go_enter Tryz.func62, Tryz.ntmps62
 go_upto_region 1 with fail
 rw [← HW1.out]
 clear HW1
 generalize w.heap.size + 1 + 1 = b3 at *
 generalize w.heap.size + 1 = b2 at *
 generalize w.heap.size = b1 at *
 go_upto_region 2 with (first | (refine wpList_ld rfl _ _ rfl _ _ rfl _ HLC.out ?_) | (go_at_call 104; refine HMY.out.mono ?_; rintro e2 w2 ⟨rfl, hs2⟩; have HS2 := Lib.hid hs2; clear hs2 HMY HS1 HLC q0 q1 q2 q3 q4 qf))
 cases mk
 ·have HR := Lib.hid (show rr = (d, false, 111) by rw [HRR.out]; unfold askD; rw [HMK.out]; rfl)
  have HS3 := Lib.hid (HS2.out.front 2 rfl)
  have HLV := Lib.hid (loadLkV (HS3.out.blk 1 rfl))
  clear hdur HE HRR
  go_wp2_with (first | (refine wpList_ld rfl _ _ rfl _ _ rfl [_, _, _, _, _] HLV.out ?_) | (refine wpList_store_whole rfl _ _ _ rfl tLkV b3 rfl [y0, y1, y2, y3, y4] rfl zLkV HS3.out (by kernel_rfl) rfl H1.out ?_; intro w9 hs9; have HS9 := Lib.hid hs9; clear hs9 HS3))
  refine bodyPost_ret (results_c3 rfl _ _ rfl (loadLkV (HS9.out.blk 0 rfl))) rfl ?_
  rw [HR.out]
  exact ⟨_, D, rfl, PH.le.refl _, HD.out, HS9.out.drop.drop.drop⟩
 rcases hdur with hdur | hdur
 ·have HR := Lib.hid (show rr = (d, false, 111) by
   rw [HRR.out]; unfold askD
   rw [bit_bad (dur := dur) (hand := hand) (by simp only [bne_iff_ne, ne_eq] at hdur; omega)]
   simp)
  have HS3 := Lib.hid (HS2.out.front 2 rfl)
  have HLV := Lib.hid (loadLkV (HS3.out.blk 1 rfl))
  clear HE HRR
  rcases hdur with ⟨rfl, h1⟩ | ⟨rfl, h1, h2⟩ | ⟨h1, h2, h3⟩
  all_goals
   go_wp2_with (first | (refine wpList_ld rfl _ _ rfl _ _ rfl [_, _, _, _, _] HLV.out ?_) | (refine wpList_store_whole rfl _ _ _ rfl tLkV b3 rfl [y0, y1, y2, y3, y4] rfl zLkV HS3.out (by kernel_rfl) rfl H1.out ?_; intro w9 hs9; have HS9 := Lib.hid hs9; clear hs9 HS3))
   refine bodyPost_ret (results_c3 rfl _ _ rfl (loadLkV (HS9.out.blk 0 rfl))) rfl ?_
   rw [HR.out]
   exact ⟨_, D, rfl, PH.le.refl _, HD.out, HS9.out.drop.drop.drop⟩
 have HG := Lib.hid (show rr = if (waitsQ d.q o).2 then (d, false, 110) else if !(holdsQ d.q o).any (fun h => RC.same h c.c) && decide (d.room ≤ (lenD d : Int)) then (d, false, 62) else (⟨d.ts, d.room, (askQ RC d.q o c.c true).1, d.r ++ [reaE e]⟩, (askQ RC d.q o c.c true).2, 0) by
  rw [HRR.out, HE.out]; unfold askD
  rw [HMK.out, decide_eq_false (bit_good (dur := dur) (hand := hand) (by omega))]
  rfl)
 clear HRR HMK
 rcases hdur with rfl | rfl | ⟨rfl, h1, h2⟩
 all_goals
  go_upto_region 4 with fail
  have HWT := Lib.hid (rqWaiting_ok o HDW.out.q HS2.out)
  obtain ⟨q0, q1, q2, q3, q4, qf⟩ := cells5v (HS2.out.blk 0 rfl)
  go_upto_region 5 with (first | (go_at_call 32; refine HWT.out.mono ?_; rintro e4 w4 ⟨z, rfl, hzc, hzo, _, hs4⟩; have HZO := Lib.hid hzo; have HS4 := Lib.hid (hs4.alloc z.cells.toArray tCl); clear hzc hzo hs4 HWT HS2 q0 q1 q2 q3 q4 qf) | (refine wpList_store_new rfl _ _ _ rfl z.cells _ _ rfl rfl (by kernel_rfl) rfl (ClmE.one z) ?_))
  obtain ⟨W5, hW5, hs5⟩ := Sat.hide HS4.out
  rw [← hW5]
  have HS5 := Lib.hid hs5.drop
  clear hW5 HS4 hs5
  obtain ⟨wb, hwb⟩ : ∃ wb, (waitsQ d.q o).2 = wb := ⟨_, rfl⟩
  rw [hwb] at HG ⊢
  clear hwb
  cases wb
  rotate_left
  ·have HR := Lib.hid (show rr = (d, false, 110) by rw [HG.out]; rfl)
   have HS3 := Lib.hid (HS5.out.front 2 rfl)
   have HLV := Lib.hid (loadLkV (HS3.out.blk 1 rfl))
   clear HS5 HE
   go_wp2_with (first | (refine wpList_ld rfl _ _ rfl _ _ rfl [_, _, _, _, _] HLV.out ?_) | (refine wpList_store_whole rfl _ _ _ rfl tLkV b3 rfl [y0, y1, y2, y3, y4] rfl zLkV HS3.out (by kernel_rfl) rfl H1.out ?_; intro w9 hs9; have HS9 := Lib.hid hs9; clear hs9 HS3))
   refine bodyPost_ret (results_c3 rfl _ _ rfl (loadLkV (HS9.out.blk 0 rfl))) rfl ?_
   rw [HR.out]
   exact ⟨_, D, rfl, PH.le.refl _, HD.out, HS9.out.drop.drop.drop⟩
  have HG2 := Lib.hid (show rr = if !(holdsQ d.q o).any (fun h => RC.same h c.c) && decide (d.room ≤ (lenD d : Int)) then (d, false, 62) else (⟨d.ts, d.room, (askQ RC d.q o c.c true).1, d.r ++ [reaE e]⟩, (askQ RC d.q o c.c true).2, 0) by rw [HG.out]; rfl)
  clear HG
  have HLV := Lib.hid (loadLkV (HS5.out.blk 0 rfl))
  have HLC := Lib.hid (loadCl (blk_range (HS5.out.blk 1 rfl)))
  have HHA := Lib.hid (rHas_ok o c HD.out HC.out (by have := HOK.out.2.2.2.2.2; unfold lenD at this; omega) HS5.out)
  obtain ⟨hb, hhb⟩ : ∃ hb, (holdsQ d.q o).any (fun h => RC.same h c.c) = hb := ⟨_, rfl⟩
  rw [hhb] at HHA HG2
  clear hhb
  go_upto_region 8 with (first | (refine wpList_ld rfl _ _ rfl _ _ rfl [_, _, _, _, _] HLV.out ?_) | (refine wpList_ld rfl _ _ rfl _ _ rfl _ HLC.out ?_) | (go_at_call 100; refine HHA.out.mono ?_; rintro e6 w6 ⟨rfl, hs6⟩; have HS6 := Lib.hid hs6; clear hs6 HHA HS5 HLV HLC))
  have HLV := Lib.hid (loadLkV (w := w6.drew) (HS6.out.drew.blk 0 rfl))
  obtain ⟨q0, q1, q2, q3, q4, qf⟩ := cells5v (HS6.out.drew.blk 0 rfl)
  rw [HDW.out.m] at q1
  cases hb
  ·have HLN := Lib.hid (rLen_ok HD.out (by have := HOK.out.2.2.2.2.2; omega) HS6.out.drew)
   refine wp_region_canon [(0, false, 4), (1, false, 4), (2, false, 4), (3, false, 4), (5, false, 999), (6, false, 999), (4, true, 0), (7, false, 999), (8, false, 999)] (by kernel_rfl) (by kernel_rfl) ?_
   iterate 3 (refine wpCan_read rfl rfl (fun K hK => ?_); (first | ((refine still_ld _ _ rfl _ _ rfl _ HLV.out ?_); go_simp) | go_simp); refine hK _ ?_; clear hK K)
   iterate 3 (first | (refine wpCan_no rfl rfl ?_; simp only [Act.put, List.setIfInBounds_toArray, List.set_cons_succ, List.set_cons_zero, List.getElem_toArray, List.getElem_cons_succ, List.getElem_cons_zero]) | (refine wpCan_yes rfl rfl (fun K hK => ?_); (first | ((refine still_ld _ _ rfl _ _ rfl _ HLV.out ?_); go_simp) | go_simp); refine hK _ ?_; clear hK K))
   refine wpCan_eff rfl ?_
   refine wpList_do rfl (fun K hK => ?_)
   go_simp
   refine HLN.out.mono ?_
   rintro e8 w8 ⟨rfl, hs8⟩
   have HS8 := Lib.hid hs8
   clear hs8 HLN HLV HS6 q0 q1 q2 q3 q4 qf
   obtain ⟨q0, q1, q2, q3, q4, qf⟩ := cells5v (HS8.out.blk 0 rfl)
   rw [HDW.out.m] at q1
   refine hK _ _ ?_
   clear hK K
   refine wpList_nil ?_
   refine And.intro ?_ ?_
   ·go_simp
   first | (refine wpCan_no rfl rfl ?_; simp only [Act.put, List.setIfInBounds_toArray, List.set_cons_succ, List.set_cons_zero, List.getElem_toArray, List.getElem_cons_succ, List.getElem_cons_zero]) | (refine wpCan_yes rfl rfl (fun K hK => ?_); (first | ((refine still_ld _ _ rfl _ _ rfl _ HLV.out ?_); go_simp) | go_simp); refine hK _ ?_; clear hK K)
   iterate 1 (refine wpCan_read rfl rfl (fun K hK => ?_); (first | ((refine still_ld _ _ rfl _ _ rfl _ HLV.out ?_); go_simp) | go_simp); refine hK _ ?_; clear hK K)
   refine wpCan_nil ?_
   by_cases hrm : (lenD d : Int) ≥ d.room
   ·have HR := Lib.hid (show rr = (d, false, 62) by rw [HG2.out, decide_eq_true (show d.room ≤ (lenD d : Int) from hrm)]; rfl)
    have HS3 := Lib.hid (HS8.out.front 2 rfl)
    have HLV := Lib.hid (loadLkV (HS3.out.blk 1 rfl))
    clear HS8 HE q0 q1 q2 q3 q4 qf
    go_wp2_with (first | (refine wpList_ld rfl _ _ rfl _ _ rfl [_, _, _, _, _] HLV.out ?_) | (refine wpList_store_whole rfl _ _ _ rfl tLkV b3 rfl [y0, y1, y2, y3, y4] rfl zLkV HS3.out (by kernel_rfl) rfl H1.out ?_; intro w9 hs9; have HS9 := Lib.hid hs9; clear hs9 HS3))
    refine bodyPost_ret (results_c3 rfl _ _ rfl (loadLkV (HS9.out.blk 0 rfl))) rfl ?_
    rw [HR.out]
    exact ⟨_, D, rfl, PH.le.refl _, HD.out, HS9.out.drop.drop.drop⟩
   ·have HR := Lib.hid (show rr = (⟨d.ts, d.room, (askQ RC d.q o c.c true).1, d.r ++ [reaE e]⟩, (askQ RC d.q o c.c true).2, 0) by rw [HG2.out, decide_eq_false (show ¬ d.room ≤ (lenD d : Int) from hrm)]; rfl)
    have HSA := Lib.hid HS8.out
    clear HS8 q0 q1 q2 q3 q4 qf
    go_upto_region 10 with fail
    clear hrm
    have HLC := Lib.hid (loadCl (blk_range (HSA.out.blk 1 rfl)))
    have HAS := Lib.hid (rqAsk_ok o c false HOK.out.1 HDW.out.q HC.out HOK.out.2.1 HOK.out.2.2.1 HOK.out.2.2.2.1 (by have := HOK.out.2.2.2.2.2; unfold lenD at this; omega) (by have := HOK.out.2.2.2.2.2; unfold lenD at this; omega) HSA.out)
    obtain ⟨q0, q1, q2, q3, q4, qf⟩ := cells5v (HSA.out.blk 0 rfl)
    go_upto_region 11 with (first | (refine wpList_ld rfl _ _ rfl _ _ rfl _ HLC.out ?_) | (go_at_call 102; refine HAS.out.mono ?_; rintro ea wa ⟨v7, D7, rfl, hle7, hq7, hs7⟩; obtain ⟨hv7, wv7, rfl, o7, p7⟩ := que2 hq7; have HLE7 := Lib.hid hle7; have HQ7 := Lib.hid hq7; have HO7 := Lib.hid (And.intro o7 p7); have HS7 := Lib.hid (hs7.alloc #[hv7, wv7] tRq); clear hle7 hq7 o7 p7 hs7 HAS HSA HLC q0 q1 q2 q3 q4 qf) | (refine wpList_store_new rfl _ _ _ rfl [hv7, wv7] _ _ rfl rfl (by kernel_rfl) rfl (by intro u hu; simp at hu; rcases hu with rfl | rfl; exact HO7.out.1; exact HO7.out.2) ?_))
    obtain ⟨Wb, hWb, hsb⟩ := Sat.hide HS7.out
    rw [← hWb]
    clear hWb HS7
    generalize wa.heap.size = bq at hsb ⊢
    have HLQ := Lib.hid (loadQ2 (blk_range (cs := [hv7, wv7]) (hsb.blk 0 rfl)))
    have HSB := Lib.hid ((hsb.front 1 rfl))
    clear hsb
    go_upto_region 12 with (first | (refine wpList_ld rfl _ _ rfl _ _ rfl [_, _] HLQ.out ?_) | (refine wpList_store_at rfl _ _ _ rfl tLkV b1 2 rfl [hv7, wv7] rfl [y0, y1, y2, y3, y4] HSB.out (by kernel_rfl) (by simp) (by intro u hu; simp at hu; rcases hu with rfl | rfl; exact HO7.out.1; exact HO7.out.2) ?_; intro wc hsc; have HSC := Lib.hid (show Sat B D7 wc (blk b1 #[y0, y1, hv7, wv7, y4] tLkV :: _) from hsc); clear hsc HSB HLQ))
    obtain ⟨es, hr, hrr⟩ := HDW.out.r
    have hel : es.length ≤ 1000 := by rw [← List.length_map (f := reaE), hrr]; exact HOK.out.2.2.2.2.1
    have HRE := Lib.hid hrr
    have hr7 := hr.mono HLE7.out
    have HRZ := Lib.hid hr7.2
    have HSD := Lib.hid (((HSC.out.front 1 rfl).drop).own_nil tRea 19)
    have HRD := Lib.hid (hr7.1.rd HSD.out)
    have HOES := Lib.hid (flat_oneE es)
    obtain ⟨q0, q1, q2, q3, q4, qf⟩ := cells5v (HSD.out.blk 1 rfl)
    clear hr hrr hr7 HSC
    generalize hNE : es.length = NE at *
    have HNE := Lib.hid hNE
    clear hNE
    go_upto_region 16 with (at_builtin; refine wpList_append_Sat _ rfl _ _ tReas rfl tRea i0 _ 19 208 Tryz.underlying59 HI.out.1 HI.out.2.1 HI.out.2.2.1 HI.out.2.2.2 rfl _ 0 _ rfl HSD.out _ NE _ rfl HRD.out HOES.out (by unfold maxLen; omega) (by omega) ?_; intro v13 w13 hs13 h13; have HS13 := Lib.hid hs13; clear hs13 h13 HSD HRD q0 q1 q2 q3 q4 qf)
    have HS14 := Lib.hid (show Sat B D7 w13 (ownS tRea 19 v13 NE (es.flatMap cellsE) :: _) from by have h := HS13.out; rw [Nat.zero_add, List.nil_append] at h; exact h)
    have HLC := Lib.hid (loadCl (blk_range (HS14.out.blk 2 rfl)))
    have HS15 := Lib.hid ((HS14.out.alloc (cellsE e).toArray tRea).front 1 rfl)
    have HRD := Lib.hid (rd_block (size := 19) (n := 1) (HS15.out.blk 1 rfl) (by simp [lenE]) (by unfold maxLen; omega))
    clear HS13 HS14
    go_upto_region 17 with (first | (refine wpList_ld rfl _ _ rfl _ _ rfl _ HLC.out ?_) | (refine wpList_build_rea rfl _ _ _ _ rfl e (by rw [HE.out]; rfl) (by rw [HE.out]; rfl) (by rw [HE.out]; rfl) (by rw [HE.out]; rfl) ?_) | (refine wpList_build_one rfl _ _ rfl tRea i0 _ (cellsE e) rfl Tryz.underlying59 HI.out.1 HI.out.2.1 (HI.out.2.2.1.trans rfl) (by rw [lenE]; decide) (by rw [lenE]; decide) ?_) | (at_builtin; refine wpList_append_Sat _ rfl _ _ tReas rfl tRea i0 _ 19 208 Tryz.underlying59 HI.out.1 HI.out.2.1 HI.out.2.2.1 HI.out.2.2.2 rfl _ NE _ rfl HS15.out _ 1 _ rfl HRD.out (by simpa using oneE e) (by unfold maxLen; omega) (by omega) ?_; intro v16 w16 hs16 h16; have HS16 := Lib.hid hs16; clear hs16 h16 HS15 HRD HLC))
    obtain ⟨va, vc, rfl⟩ := HS16.out.own_shape
    have HS17 := Lib.hid (show Sat B D7 w16 (blk b1 #[y0, y1, hv7, wv7, y4] tLkV :: reasP (.slice va (NE + 1) vc) (es ++ [e]) :: blk b2 c.cells.toArray tCl :: blk b3 zLkV tLkV :: l) from by
     show Sat B D7 w16 (_ :: ownS tRea 19 (.slice va (NE + 1) vc) (es ++ [e]).length ((es ++ [e]).flatMap cellsE) :: _)
     rw [List.length_append, List.flatMap_append, HNE.out]
     have h := ((HS16.out.front 1 rfl).drop).front 1 rfl
     simpa using h)
    have HS18 := Lib.hid (Sat.set5e HS17.out (.slice va (NE + 1) vc))
    obtain ⟨q0, q1, q2, q3, q4, qf⟩ := cells5v (HS17.out.blk 0 rfl)
    go_upto_region 18 with fail
    obtain ⟨Wd, hWd, hsd⟩ := Sat.hide HS18.out
    rw [← hWd]
    clear hWd HS18 HS17 HS16 q0 q1 q2 q3 q4 qf
    obtain ⟨D2, hle2, hE2, hs19⟩ := reas_give (hsd.front 1 rfl) (fun x hx => by
     rcases List.mem_append.1 hx with hx | hx
     ·exact HRZ.out x hx
     ·rw [List.mem_singleton] at hx
      rw [hx, HE.out]
      exact HC.out.mono HLE7.out)
    have HLV := Lib.hid (loadLkV (hs19.blk 0 rfl))
    have HS19 := Lib.hid (hs19.front 2 rfl)
    have HLE2 := Lib.hid hle2
    have HE2 := Lib.hid hE2
    clear hsd hs19 hE2 hle2
    go_wp2_with (first | (refine wpList_ld rfl _ _ rfl _ _ rfl [_, _, _, _, _] HLV.out ?_) | (refine wpList_store_whole rfl _ _ _ rfl tLkV b3 rfl [y0, y1, hv7, wv7, .slice va (NE + 1) vc] rfl zLkV HS19.out (by kernel_rfl) rfl (by intro u hu; simp at hu; rcases hu with rfl | rfl | rfl | rfl | rfl; exact HDW.out.ones.1; exact HDW.out.ones.2.1; exact HO7.out.1; exact HO7.out.2; rfl) ?_; intro w20 hs20; have HS20 := Lib.hid hs20; clear hs20 HS19))
    refine bodyPost_ret (results_c3 rfl _ _ rfl (loadLkV (HS20.out.blk 0 rfl))) rfl ?_
    rw [HR.out]
    have hw7 := (HDW.out.mono HLE7.out).mono HLE2.out
    exact ⟨_, D2, rfl, HLE7.out.trans HLE2.out, DocW.d ⟨hw7.t, hw7.m, HQ7.out.mono HLE2.out, ⟨es ++ [e], HE2.out, by rw [List.map_append, HRE.out]; rfl⟩⟩, HS20.out.drop.drop.drop⟩
  ·have HR := Lib.hid (show rr = (⟨d.ts, d.room, (askQ RC d.q o c.c true).1, d.r ++ [reaE e]⟩, (askQ RC d.q o c.c true).2, 0) by rw [HG2.out]; rfl)
   have HSA := Lib.hid HS6.out.drew
   refine wp_region_canon [(0, false, 4), (1, false, 4), (2, false, 4), (3, false, 4), (5, false, 999), (6, false, 999), (4, true, 0), (7, false, 999), (8, false, 999)] (by kernel_rfl) (by kernel_rfl) ?_
   iterate 3 (refine wpCan_read rfl rfl (fun K hK => ?_); go_simp; refine hK _ ?_; clear hK K)
   iterate 3 (first | (refine wpCan_no rfl rfl ?_; simp only [Act.put, List.setIfInBounds_toArray, List.set_cons_succ, List.set_cons_zero, List.getElem_toArray, List.getElem_cons_succ, List.getElem_cons_zero]) | (refine wpCan_yes rfl rfl (fun K hK => ?_); go_simp; refine hK _ ?_; clear hK K))
   refine wpCan_eff rfl ?_
   refine wpList_not rfl ?_
   simp only [Act.put, List.setIfInBounds_toArray, List.set_cons_succ, List.set_cons_zero]
   refine wpList_nil ?_
   refine And.intro ?_ ?_
   ·go_simp
   first | (refine wpCan_no rfl rfl ?_; simp only [Act.put, List.setIfInBounds_toArray, List.set_cons_succ, List.set_cons_zero, List.getElem_toArray, List.getElem_cons_succ, List.getElem_cons_zero]) | (refine wpCan_yes rfl rfl (fun K hK => ?_); go_simp; refine hK _ ?_; clear hK K)
   iterate 1 (refine wpCan_read rfl rfl (fun K hK => ?_); go_simp; refine hK _ ?_; clear hK K)
   refine wpCan_nil ?_
   clear HS6 HLV q0 q1 q2 q3 q4 qf
   have HLC := Lib.hid (loadCl (blk_range (HSA.out.blk 1 rfl)))
   have HAS := Lib.hid (rqAsk_ok o c false HOK.out.1 HDW.out.q HC.out HOK.out.2.1 HOK.out.2.2.1 HOK.out.2.2.2.1 (by have := HOK.out.2.2.2.2.2; unfold lenD at this; omega) (by have := HOK.out.2.2.2.2.2; unfold lenD at this; omega) HSA.out)
   obtain ⟨q0, q1, q2, q3, q4, qf⟩ := cells5v (HSA.out.blk 0 rfl)
   go_upto_region 11 with (first | (refine wpList_ld rfl _ _ rfl _ _ rfl _ HLC.out ?_) | (go_at_call 102; refine HAS.out.mono ?_; rintro ea wa ⟨v7, D7, rfl, hle7, hq7, hs7⟩; obtain ⟨hv7, wv7, rfl, o7, p7⟩ := que2 hq7; have HLE7 := Lib.hid hle7; have HQ7 := Lib.hid hq7; have HO7 := Lib.hid (And.intro o7 p7); have HS7 := Lib.hid (hs7.alloc #[hv7, wv7] tRq); clear hle7 hq7 o7 p7 hs7 HAS HSA HLC q0 q1 q2 q3 q4 qf) | (refine wpList_store_new rfl _ _ _ rfl [hv7, wv7] _ _ rfl rfl (by kernel_rfl) rfl (by intro u hu; simp at hu; rcases hu with rfl | rfl; exact HO7.out.1; exact HO7.out.2) ?_))
   obtain ⟨Wb, hWb, hsb⟩ := Sat.hide HS7.out
   rw [← hWb]
   clear hWb HS7
   generalize wa.heap.size = bq at hsb ⊢
   have HLQ := Lib.hid (loadQ2 (blk_range (cs := [hv7, wv7]) (hsb.blk 0 rfl)))
   have HSB := Lib.hid ((hsb.front 1 rfl))
   clear hsb
   go_upto_region 12 with (first | (refine wpList_ld rfl _ _ rfl _ _ rfl [_, _] HLQ.out ?_) | (refine wpList_store_at rfl _ _ _ rfl tLkV b1 2 rfl [hv7, wv7] rfl [y0, y1, y2, y3, y4] HSB.out (by kernel_rfl) (by simp) (by intro u hu; simp at hu; rcases hu with rfl | rfl; exact HO7.out.1; exact HO7.out.2) ?_; intro wc hsc; have HSC := Lib.hid (show Sat B D7 wc (blk b1 #[y0, y1, hv7, wv7, y4] tLkV :: _) from hsc); clear hsc HSB HLQ))
   obtain ⟨es, hr, hrr⟩ := HDW.out.r
   have hel : es.length ≤ 1000 := by rw [← List.length_map (f := reaE), hrr]; exact HOK.out.2.2.2.2.1
   have HRE := Lib.hid hrr
   have hr7 := hr.mono HLE7.out
   have HRZ := Lib.hid hr7.2
   have HSD := Lib.hid (((HSC.out.front 1 rfl).drop).own_nil tRea 19)
   have HRD := Lib.hid (hr7.1.rd HSD.out)
   have HOES := Lib.hid (flat_oneE es)
   obtain ⟨q0, q1, q2, q3, q4, qf⟩ := cells5v (HSD.out.blk 1 rfl)
   clear hr hrr hr7 HSC
   generalize hNE : es.length = NE at *
   have HNE := Lib.hid hNE
   clear hNE
   go_upto_region 16 with (at_builtin; refine wpList_append_Sat _ rfl _ _ tReas rfl tRea i0 _ 19 208 Tryz.underlying59 HI.out.1 HI.out.2.1 HI.out.2.2.1 HI.out.2.2.2 rfl _ 0 _ rfl HSD.out _ NE _ rfl HRD.out HOES.out (by unfold maxLen; omega) (by omega) ?_; intro v13 w13 hs13 h13; have HS13 := Lib.hid hs13; clear hs13 h13 HSD HRD q0 q1 q2 q3 q4 qf)
   have HS14 := Lib.hid (show Sat B D7 w13 (ownS tRea 19 v13 NE (es.flatMap cellsE) :: _) from by have h := HS13.out; rw [Nat.zero_add, List.nil_append] at h; exact h)
   have HLC := Lib.hid (loadCl (blk_range (HS14.out.blk 2 rfl)))
   have HS15 := Lib.hid ((HS14.out.alloc (cellsE e).toArray tRea).front 1 rfl)
   have HRD := Lib.hid (rd_block (size := 19) (n := 1) (HS15.out.blk 1 rfl) (by simp [lenE]) (by unfold maxLen; omega))
   clear HS13 HS14
   go_upto_region 17 with (first | (refine wpList_ld rfl _ _ rfl _ _ rfl _ HLC.out ?_) | (refine wpList_build_rea rfl _ _ _ _ rfl e (by rw [HE.out]; rfl) (by rw [HE.out]; rfl) (by rw [HE.out]; rfl) (by rw [HE.out]; rfl) ?_) | (refine wpList_build_one rfl _ _ rfl tRea i0 _ (cellsE e) rfl Tryz.underlying59 HI.out.1 HI.out.2.1 (HI.out.2.2.1.trans rfl) (by rw [lenE]; decide) (by rw [lenE]; decide) ?_) | (at_builtin; refine wpList_append_Sat _ rfl _ _ tReas rfl tRea i0 _ 19 208 Tryz.underlying59 HI.out.1 HI.out.2.1 HI.out.2.2.1 HI.out.2.2.2 rfl _ NE _ rfl HS15.out _ 1 _ rfl HRD.out (by simpa using oneE e) (by unfold maxLen; omega) (by omega) ?_; intro v16 w16 hs16 h16; have HS16 := Lib.hid hs16; clear hs16 h16 HS15 HRD HLC))
   obtain ⟨va, vc, rfl⟩ := HS16.out.own_shape
   have HS17 := Lib.hid (show Sat B D7 w16 (blk b1 #[y0, y1, hv7, wv7, y4] tLkV :: reasP (.slice va (NE + 1) vc) (es ++ [e]) :: blk b2 c.cells.toArray tCl :: blk b3 zLkV tLkV :: l) from by
    show Sat B D7 w16 (_ :: ownS tRea 19 (.slice va (NE + 1) vc) (es ++ [e]).length ((es ++ [e]).flatMap cellsE) :: _)
    rw [List.length_append, List.flatMap_append, HNE.out]
    have h := ((HS16.out.front 1 rfl).drop).front 1 rfl
    simpa using h)
   have HS18 := Lib.hid (Sat.set5e HS17.out (.slice va (NE + 1) vc))
   obtain ⟨q0, q1, q2, q3, q4, qf⟩ := cells5v (HS17.out.blk 0 rfl)
   go_upto_region 18 with fail
   obtain ⟨Wd, hWd, hsd⟩ := Sat.hide HS18.out
   rw [← hWd]
   clear hWd HS18 HS17 HS16 q0 q1 q2 q3 q4 qf
   obtain ⟨D2, hle2, hE2, hs19⟩ := reas_give (hsd.front 1 rfl) (fun x hx => by
    rcases List.mem_append.1 hx with hx | hx
    ·exact HRZ.out x hx
    ·rw [List.mem_singleton] at hx
     rw [hx, HE.out]
     exact HC.out.mono HLE7.out)
   have HLV := Lib.hid (loadLkV (hs19.blk 0 rfl))
   have HS19 := Lib.hid (hs19.front 2 rfl)
   have HLE2 := Lib.hid hle2
   have HE2 := Lib.hid hE2
   clear hsd hs19 hE2 hle2
   go_wp2_with (first | (refine wpList_ld rfl _ _ rfl _ _ rfl [_, _, _, _, _] HLV.out ?_) | (refine wpList_store_whole rfl _ _ _ rfl tLkV b3 rfl [y0, y1, hv7, wv7, .slice va (NE + 1) vc] rfl zLkV HS19.out (by kernel_rfl) rfl (by intro u hu; simp at hu; rcases hu with rfl | rfl | rfl | rfl | rfl; exact HDW.out.ones.1; exact HDW.out.ones.2.1; exact HO7.out.1; exact HO7.out.2; rfl) ?_; intro w20 hs20; have HS20 := Lib.hid hs20; clear hs20 HS19))
   refine bodyPost_ret (results_c3 rfl _ _ rfl (loadLkV (HS20.out.blk 0 rfl))) rfl ?_
   rw [HR.out]
   have hw7 := (HDW.out.mono HLE7.out).mono HLE2.out
   exact ⟨_, D2, rfl, HLE7.out.trans HLE2.out, DocW.d ⟨hw7.t, hw7.m, HQ7.out.mono HLE2.out, ⟨es ++ [e], HE2.out, by rw [List.map_append, HRE.out]; rfl⟩⟩, HS20.out.drop.drop.drop⟩
end Go.Proofs.YtgljdkjepdknnaaGreatDoor
