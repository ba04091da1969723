/- Asking, over claims. (printed by genaskc.py) -/
import Derived.Test.YtgljdkjepdknnaaGreatDoorMT11
import Derived.Test.YtgljdkjepdknnaaGreatDoorMT12
set_option maxHeartbeats 64000000
namespace Go.Proofs.YtgljdkjepdknnaaGreatDoor
open Go.ChangeShapes Go.WideShapes Go.ChangeAt Go.RowKit
set_option maxRecDepth 100000
set_option linter.unusedSimpArgs false
theorem gY {B w : World} {D D' : PH} {l : List HP} {q : Nat} {Q : Qm Clm} {D0 : PH} (h : Sat B D0 w (bP D q Q :: l)) (le : PH.le D D') : Sat B D0 w (bP D' q Q :: l) :=
 h.weaken (fun _ ⟨x, ⟨h1, h2⟩, H⟩ => ⟨x, ⟨⟨h1.1, fun e he => (h1.2 e he).mono le⟩, ⟨h2.1, fun e he => (h2.2 e he).mono le⟩⟩, H⟩)
theorem kM (w : World) (n : Int) (x : ClmE) : (Instr.build bg #[(0, .int .i64 n), (1, .agg x.cells.toArray)]).run Tryz.prog w = .ok (.agg (au (mkC n x false)).toArray) w := run_build w _ _ _ (by kernel_rfl)
theorem ek {w : World} {o : Oper} {a : Act} {ops : Array Oper} {rest : List Oper} {Q : Exit → Act → World → Prop} (hgd : o.guard = none) (xo xc : Operand) (ho : o.op = .build bg #[(0, xo), (1, xc)]) (n : Int) (x : ClmE) (h1 : a.eval xo = .int .i64 n) (h2 : a.eval xc = .agg x.cells.toArray)
  (h : wpList Tryz.prog ops Q rest (a.put o.dst (.agg (au (mkC n x false)).toArray)) w) : wpList Tryz.prog ops Q (o :: rest) a w :=
 wpList_plain hgd fun _ hK => by
  have hrun := kM w n x
  unfold Oper.wp execOp
  simp only [ho, List.map_toArray, List.map_cons, List.map_nil, h1, h2, Sem.run_bind, Sem.run_pure, Result.andThen_ok, hrun]
  exact hK _ _ h
theorem lT {w : World} {g o : Nat} {e : EntE} (h : w.rangeAt g o (au e)) : w.rangeAt g (o + 1) e.x.cells := fun j v hv => by
 have hj : j < 16 := by have := (List.getElem?_eq_some_iff.1 hv).1; rwa [ClmE.len] at this
 have := h (1 + j) v (by
  rw [← hv, show 1 + j = j + 1 by omega]
  simp only [au, List.getElem?_cons_succ]
  show (e.x.cells ++ [.bool e.more])[j]? = _
  rw [List.getElem?_append_left (by rw [ClmE.len]; exact hj)])
 rw [← Nat.add_assoc] at this
 exact this
theorem lu (n : Int) (x z : ClmE) (b : Bool) : lay (au (mkC n x b)) 1 z.cells = au (mkC n z b) := rfl
theorem Sat.setMore {B w : World} {D : PH} {l : List HP} {b : Nat} {n : Int} {x : ClmE} {m : Bool} (hs : Sat B D w (Proofs.YtgljdkjepdknnaaGreatDoor.blk b (au (mkC n x m)).toArray bg :: l)) (u : Bool) : Sat B D (w.setCell ⟨b, 17, none⟩ (.bool u)) (Proofs.YtgljdkjepdknnaaGreatDoor.blk b (au (mkC n x u)).toArray bg :: l) := hs.set 17 (.bool u)
def nM (B : World) (D : PH) (l : List HP) (q : Nat) (R : Qm Clm × Bool) (r : Ending) (w' : World) : Prop := ∃ D' : PH, r = .returned (.bool R.2) ∧ PH.le D D' ∧ Sat B D' w' (bP D' q R.1 :: l)
theorem ask_C {B w : World} {D : PH} {l : List HP} {q : Nat} {Q : Qm Clm} (o : Int) (c : ClmE) (b : Bool) (hD : EnvD D) (hc : ClOk D c) (hsm : ClmSm 1000000 c.c) (hqs : ∀ e ∈ Q.held, ClmSm 1000000 e.c) (hh : Q.held.length ≤ 100000) (hww : Q.waits.length ≤ 1000) (h : Sat B D w (bP D q Q :: l)) :
  Calls Tryz.prog 87 #[.pointer (some ⟨q, 0, none⟩), .int .i64 o, cvC c, .bool b] w (nM B D l q (aV RC Q o (cdC c) b)) := by
 obtain ⟨i0, hi, hz0, hz1, hz2⟩ := info_parts mt
 have HI := BO (And.intro hi (And.intro hz0 (And.intro hz1 hz2)))
 clear hi hz0 hz1 hz2
 obtain ⟨W0, hW0, hs0⟩ : ∃ W, W = w.alloc (.cells c.cells.toArray tCl) ∧ Sat B D W (bP D q Q :: blk w.heap.size c.cells.toArray tCl :: l) := ⟨_, rfl, (h.alloc _ _).swap⟩
 have vx := BO hW0
 have zh := BO hD
 have HC := BO hc
 have t8 := BO hsm
 have xF := BO hqs
 have HS := BO hs0
 have HW := BO (lI o hs0)
 clear h hD hW0 hs0 hc hsm hqs
 rcases nK Q.waits o with ⟨hw, hk⟩ | ⟨hw, hk⟩
 ·have tk := BO (show aV RC Q o (cdC c) b = (Q, false) by unfold aV; rw [if_pos hw])
  rw [tk.out]
  generalize cl (ofE o) Q.waits = k at *
  clear hw
  go_enter Tryz.func87, Tryz.ntmps87
  go_upto_region 1 with fail
  rw [← vx.out]
  clear vx
  generalize w.heap.size = bc at *
  go_wp2_with (go_at_call 82; refine HW.out.mono ?_; rintro e1 w1 ⟨rfl, hk1⟩; have sS := BO (HS.out.kept hk1); clear hk1 HS HW)
  go_ret
  exact ⟨D, rfl, PH.le.refl _, sS.out.swap.drop⟩
 rw [hk] at HW
 have yv := BO hw
 clear hk hw
 rcases gL (R := RC) Q.held o (cdC c) with ⟨k, ho, hk, hlt⟩ | ⟨ho, hk⟩
 ·obtain ⟨x0, hx0⟩ : ∃ x, Q.held[k]? = some x := ⟨Q.held[k], List.getElem?_eq_getElem hlt⟩
  have xG := BO hx0
  have HO := BO ho
  have HK := BO hk
  clear hx0 ho hk
  cases hcv : RC.cov x0.c (cdC c)
  ·have uQ := BO (show cL RC Q o (cdC c) = some (⟨o, RC.join x0.c (cdC c), true⟩, ce Q.waits) by unfold cL; simp only [HO.out, xG.out, hcv]; simp)
   have toq := BO hcv
   clear hcv
   go_enter Tryz.func87, Tryz.ntmps87
   go_upto_region 1 with fail
   rw [← vx.out]
   clear vx
   generalize w.heap.size = bc at *
   go_upto_region 3 with (go_at_call 82; refine HW.out.mono ?_; rintro e1 w1 ⟨rfl, hk1⟩; have sS := BO (HS.out.kept hk1); clear hk1 HS HW)
   have tg := BO (ay (ai (sS.out.blk 1 rfl)))
   have sX := BO (sS.out.alloc (au (mkC o c false)).toArray bg)
   clear sS
   go_upto_region 4 with (first | (refine ag rfl _ _ rfl _ _ rfl _ tg.out ?_) | (refine ek rfl _ _ rfl o c rfl rfl ?_) | (refine ax rfl _ _ _ rfl (au (mkC o c false)) _ _ rfl rfl (by kernel_rfl) rfl (eA _) ?_))
   clear tg
   obtain ⟨W2, hW2, hs2⟩ := Sat.hide sX.out
   rw [← hW2]
   clear hW2 sX
   generalize w1.heap.size = bz at hs2 ⊢
   have sX := BO hs2.swap
   have tg := BO (ay (ai (hs2.blk 2 rfl)))
   obtain ⟨hv, wv, hs, ws, hr1, hr2, h2⟩ := aU hs2.swap
   obtain ⟨wa, wc, rfl⟩ := (h2.front 2 rfl).own_shape
   obtain ⟨c0, c1, c2, c3, c4, c5, cf⟩ := a7 (h2.blk 0 rfl)
   generalize ws.length = nw at c5
   clear hs2 h2 hr1 hr2
   go_upto_region 6 with (first | (refine ag rfl _ _ rfl _ _ rfl _ tg.out ?_) | (go_at_call 133; refine (pC o c (PH.le.refl _) HC.out sX.out).mono ?_; rw [HK.out]; rintro e3 w3 ⟨rfl, hk3⟩; have s0 := BO (sX.out.kept hk3); clear hk3 sX tg c0 c1 c2 c3 c4 c5 cf))
   obtain ⟨hv, wv, hs, ws, hr1, hr2, h1⟩ := aU s0.out
   obtain ⟨x, hx, hxe⟩ : ∃ x, hs[k]? = some x ∧ aG x = x0 := by
    have hx0 := xG.out
    rw [← hr1.1, List.getElem?_map] at hx0
    cases hxx : hs[k]? with
    | none => rw [hxx] at hx0; cases hx0
    | some x => rw [hxx] at hx0; exact ⟨x, rfl, Option.some.inj hx0⟩
   have vQ := BO (show x.x.c = x0.c by rw [← hxe])
   have uW := BO (show ClOk D x.x from hr1.2 x (List.mem_of_getElem? hx))
   obtain ⟨ha, hcp, rfl⟩ := (h1.front 1 rfl).own_shape
   obtain ⟨g, og, rfl, hrng⟩ := aD bM (h1.own 1 rfl).rd hx rfl
   have uC := BO (ay (lT hrng))
   obtain ⟨c0, c1, c2, c3, c4, c5, cf⟩ := a7 (h1.blk 0 rfl)
   have hkl : (k : Int) < (hs.length : Int) := by have := (List.getElem?_eq_some_iff.1 hx).1; omega
   generalize hs.length = nh at c4 hkl
   clear hr1 hr2 h1 hx hxe hrng
   have td := BO ((s0.out.alloc x.x.cells.toArray tCl).swap)
   go_upto_region 8 with (first | (refine ag rfl _ _ rfl _ _ rfl _ uC.out ?_) | (refine ax rfl _ _ _ rfl x.x.cells _ _ rfl rfl (by kernel_rfl) rfl (ClmE.one _) ?_))
   clear uC s0 c0 c1 c2 c3 c4 c5 cf
   obtain ⟨W7, hW7, hs7⟩ := Sat.hide td.out
   rw [← hW7]
   clear hW7 td
   generalize w3.heap.size = bh at hs7 ⊢
   have td := BO (show Sat B D W7 (bP D q Q :: blk bh x.x.cells.toArray tCl :: blk bz (au (mkC o c false)).toArray bg :: blk bc c.cells.toArray tCl :: l) from hs7)
   clear hs7
   obtain ⟨hv, wv, hs, ws, hr1, hr2, h3⟩ := aU td.out
   obtain ⟨c0, c1, c2, c3, c4, c5, cf⟩ := a7 (h3.blk 0 rfl)
   clear hr1 hr2 h3
   have uC := BO (ay (w := W7.drew) (ai (td.out.drew.blk 1 rfl)))
   have tg := BO (ay (w := W7.drew) (ai (td.out.drew.blk 3 rfl)))
   have uy := BO (cov_C (zh.out.env td.out.drew) (uW.out.rd td.out.drew) (HC.out.rd td.out.drew))
   rw [vQ.out, toq.out] at uy
   refine af [(0, false, 7), (1, false, 7), (2, false, 7), (3, false, 7), (4, false, 7), (5, false, 7), (6, false, 7), (7, true, 0)] (by kernel_rfl) (by kernel_rfl) ?_
   iterate 7 (refine ae rfl rfl (fun K hK => ?_); (first | ((refine aj _ _ rfl _ _ rfl _ uC.out ?_); go_simp) | ((refine aj _ _ rfl _ _ rfl _ tg.out ?_); go_simp) | go_simp); refine hK _ ?_; clear hK K)
   refine al rfl ?_
   refine aw rfl (fun K hK => ?_)
   go_simp
   refine uy.out.mono ?_
   rintro e4 w4 ⟨rfl, hk4⟩
   have tj := BO (td.out.drew.kept hk4)
   clear hk4 td uy uC tg c0 c1 c2 c3 c4 c5 cf
   obtain ⟨hv, wv, hs, ws, hr1, hr2, h3⟩ := aU tj.out
   obtain ⟨c0, c1, c2, c3, c4, c5, cf⟩ := a7 (h3.blk 0 rfl)
   clear hr1 hr2 h3
   have uC := BO (ay (ai (tj.out.blk 1 rfl)))
   have tg := BO (ay (ai (tj.out.blk 3 rfl)))
   refine hK _ _ ?_
   clear hK K
   refine wpList_nil ?_
   refine And.intro ?_ ?_
   ·go_simp
   refine ap ?_
   go_upto_region 10 with fail
   have yQ := BO (join_C (zh.out) uW.out HC.out (by rw [vQ.out]; exact xF.out x0 (List.mem_of_getElem? xG.out)) t8.out tj.out.drew)
   rw [vQ.out] at yQ
   clear uC tg
   have uC := BO (ay (w := w4.drew) (ai (tj.out.drew.blk 1 rfl)))
   have tg := BO (ay (w := w4.drew) (ai (tj.out.drew.blk 3 rfl)))
   refine af [(0, false, 7), (1, false, 7), (2, false, 7), (3, false, 7), (4, false, 7), (5, false, 7), (6, false, 7), (7, true, 0), (8, false, 9), (9, true, 0), (10, false, 11), (11, true, 0)] (by kernel_rfl) (by kernel_rfl) ?_
   iterate 7 (refine ae rfl rfl (fun K hK => ?_); (first | ((refine aj _ _ rfl _ _ rfl _ uC.out ?_); go_simp) | ((refine aj _ _ rfl _ _ rfl _ tg.out ?_); go_simp) | go_simp); refine hK _ ?_; clear hK K)
   refine al rfl ?_
   refine aw rfl (fun K hK => ?_)
   go_simp
   refine yQ.out.mono ?_
   rintro e5 w5 ⟨z, D5, rfl, hzc, hle5, hok5, hs5⟩
   have vU := BO hzc
   have uf := BO hle5
   have Ad := BO hok5
   have sV := BO (show Sat B D5 w5 (blk bz (au (mkC o c false)).toArray bg :: bP D5 q Q :: blk bc c.cells.toArray tCl :: l) from ((gY hs5 hle5).swap.drop).swap)
   clear hzc hle5 hok5 hs5 yQ uC tg tj c0 c1 c2 c3 c4 c5 cf
   refine hK _ _ ?_
   clear hK K
   refine wpList_nil ?_
   refine And.intro ?_ ?_
   ·go_simp
   refine ae rfl rfl (fun K hK => ?_); (first | ((refine aj _ _ rfl _ _ rfl _ uC.out ?_); go_simp) | ((refine aj _ _ rfl _ _ rfl _ tg.out ?_); go_simp) | go_simp); refine hK _ ?_; clear hK K
   refine al rfl ?_
   refine bd rfl _ _ _ rfl bg bz 1 rfl z.cells rfl (au (mkC o c false)) sV.out (by kernel_rfl) (by rw [bM, ClmE.len]; decide) (ClmE.one z) ?_
   intro w6 hs6
   rw [lu] at hs6
   have z17 := (d5 (hs6.blk 0 rfl)).2
   have zf := frz (hs6.blk 0 rfl)
   have s0 := BO (Sat.setMore hs6 true)
   clear hs6 sV
   refine wpList_nil ?_
   refine And.intro ?_ ?_
   ·go_simp
   refine ae rfl rfl (fun K hK => ?_); (first | ((refine aj _ _ rfl _ _ rfl _ uC.out ?_); go_simp) | ((refine aj _ _ rfl _ _ rfl _ tg.out ?_); go_simp) | go_simp); refine hK _ ?_; clear hK K
   refine al rfl ?_
   refine wpList_plain rfl (fun K hK => ?_)
   go_simp
   refine hK _ _ ?_
   clear hK K
   refine wpList_nil ?_
   refine And.intro ?_ ?_
   ·go_simp
   refine ap ?_
   obtain ⟨W9, hW9, hs9⟩ := Sat.hide s0.out
   (try rw [← hW9])
   clear hW9 s0
   obtain ⟨en, hen⟩ : ∃ en : EntE, en = mkC o z true := ⟨_, rfl⟩
   have uX := BO (show ∀ b, aV RC Q o (cdC c) b = if dB RC Q o (aG en).c (Q.waits.take (ce Q.waits)) then (ci RC Q (aG en), true) else if b then (⟨Q.held, Q.waits.take (ce Q.waits) ++ [aG en] ++ Q.waits.drop (ce Q.waits)⟩, false) else (Q, false) from fun b => jB (e := aG en) yv.out (by rw [hen, uQ.out, show aG (mkC o z true) = ⟨o, z.c, true⟩ from rfl, vU.out]))
   have vV := BO (show en.o = o by rw [hen])
   have tJ := BO (show OkC D5 en by rw [hen]; exact Ad.out)
   have HD := BO (zh.out.mono uf.out)
   have ti := BO (show Sat B D5 W9 (bP D5 q Q :: blk bz (au en).toArray bg :: blk bc c.cells.toArray tCl :: l) from by rw [hen]; exact hs9.swap)
   clear hs9 uQ hen
   go_upto_region 12 with (go_at_call 134; refine (mores_C ti.out).mono ?_; rintro e6 w6 ⟨rfl, rfl⟩)
   have hat0 : ce Q.waits ≤ Q.waits.length := fG _
   generalize ce Q.waits = at_ at *
   have sV := BO ti.out
   clear ti
   cases hf : dB RC Q o (aG en).c (Q.waits.take at_)
   ·have HF := BO hf
    cases b
    ·have tk := BO (show aV RC Q o (cdC c) false = (Q, false) by rw [uX.out false, hf]; simp)
     clear hf
     (try go_upto_region 12 with fail)
     obtain ⟨hv, wv, hs, ws, hr1, hr2, h2⟩ := aU sV.out.drew
     obtain ⟨wa, wc, rfl⟩ := (h2.front 2 rfl).own_shape
     have hwl : ws.length = Q.waits.length := by rw [← hr2.1, List.length_map]
     have hat : at_ ≤ ws.length := by omega
     have s5 := BO (Rd.takeE bM (h2.own 2 rfl).rd (m := at_) hat rfl)
     have ul := BO (fun (x : EntE) (hx : x ∈ ws.take at_) => (hr2.2 x (List.mem_of_mem_take hx) : ClOk D5 x.x))
     have uu := BO (show (ws.take at_).map aG = Q.waits.take at_ by rw [List.map_take, hr2.1])
     have HL := BO (dk (ai (h2.blk 3 rfl)))
     obtain ⟨c0, c1, c2, c3, c4, c5, cf⟩ := a7 (h2.blk 0 rfl)
     have hws : ws.length ≤ wc := by obtain ⟨_, _, _, _, hx, hy, _⟩ := (h2.own 2 rfl).rd; cases hx; exact hy
     have hb1 : (at_ : Int) ≤ (wc : Int) := by omega
     have hmap : Option.map (fun x => Addr.add x 0) wa = wa := by rcases (h2.own 2 rfl).2.2 with ⟨hx, _⟩ | ⟨g, c2, cur, hx, _⟩ <;> rw [(Value.slice.inj hx).1] <;> first | rfl | simp [bZ]
     generalize hN : ws.length = N at *
     clear hr1 hr2 h2 hwl hN hws
     refine af [(0, false, 8), (1, false, 8), (2, false, 8), (3, false, 8), (4, false, 8), (5, false, 8), (6, false, 8), (7, false, 8), (8, true, 0)] (by kernel_rfl) (by kernel_rfl) ?_
     iterate 8 (refine ae rfl rfl (fun K hK => ?_); (first | ((refine aj _ _ rfl _ _ rfl _ HL.out ?_); go_simp) | go_simp); refine hK _ ?_; clear hK K)
     refine al rfl ?_
     refine aw rfl (fun K hK => ?_)
     go_simp
     refine (fj en (HD.out.env sV.out.drew) (PH.le.refl _) tJ.out ul.out s5.out sV.out.drew).mono ?_
     rw [uu.out, vV.out, HF.out]
     rintro e6 w6 ⟨rfl, hk6⟩
     have s0 := BO (sV.out.drew.kept hk6)
     clear hk6 sV HL s5 ul c0 c1 c2 c3 c4 c5 cf hb1 hmap uu HF
     refine hK _ _ ?_
     clear hK K
     refine wpList_nil ?_
     refine And.intro ?_ ?_
     ·go_simp
     refine ap ?_
     go_wp2_with fail
     go_ret
     rw [tk.out]
     exact ⟨D5, rfl, uf.out, s0.out.swap.drop.swap.drop⟩
    ·have tk := BO (show aV RC Q o (cdC c) true = (⟨Q.held, Q.waits.take at_ ++ [aG en] ++ Q.waits.drop at_⟩, false) by rw [uX.out true, hf]; simp)
     clear hf
     (try go_upto_region 12 with fail)
     obtain ⟨hv, wv, hs, ws, hr1, hr2, h2⟩ := aU sV.out.drew
     obtain ⟨wa, wc, rfl⟩ := (h2.front 2 rfl).own_shape
     have hwl : ws.length = Q.waits.length := by rw [← hr2.1, List.length_map]
     have hat : at_ ≤ ws.length := by omega
     have s5 := BO (Rd.takeE bM (h2.own 2 rfl).rd (m := at_) hat rfl)
     have ul := BO (fun (x : EntE) (hx : x ∈ ws.take at_) => (hr2.2 x (List.mem_of_mem_take hx) : ClOk D5 x.x))
     have uu := BO (show (ws.take at_).map aG = Q.waits.take at_ by rw [List.map_take, hr2.1])
     have HL := BO (dk (ai (h2.blk 3 rfl)))
     obtain ⟨c0, c1, c2, c3, c4, c5, cf⟩ := a7 (h2.blk 0 rfl)
     have hws : ws.length ≤ wc := by obtain ⟨_, _, _, _, hx, hy, _⟩ := (h2.own 2 rfl).rd; cases hx; exact hy
     have hb1 : (at_ : Int) ≤ (wc : Int) := by omega
     have hmap : Option.map (fun x => Addr.add x 0) wa = wa := by rcases (h2.own 2 rfl).2.2 with ⟨hx, _⟩ | ⟨g, c2, cur, hx, _⟩ <;> rw [(Value.slice.inj hx).1] <;> first | rfl | simp [bZ]
     generalize hN : ws.length = N at *
     clear hr1 hr2 h2 hwl hN hws
     refine af [(0, false, 8), (1, false, 8), (2, false, 8), (3, false, 8), (4, false, 8), (5, false, 8), (6, false, 8), (7, false, 8), (8, true, 0)] (by kernel_rfl) (by kernel_rfl) ?_
     iterate 8 (refine ae rfl rfl (fun K hK => ?_); (first | ((refine aj _ _ rfl _ _ rfl _ HL.out ?_); go_simp) | go_simp); refine hK _ ?_; clear hK K)
     refine al rfl ?_
     refine aw rfl (fun K hK => ?_)
     go_simp
     refine (fj en (HD.out.env sV.out.drew) (PH.le.refl _) tJ.out ul.out s5.out sV.out.drew).mono ?_
     rw [uu.out, vV.out, HF.out]
     rintro e6 w6 ⟨rfl, hk6⟩
     have s0 := BO (sV.out.drew.kept hk6)
     clear hk6 sV HL s5 ul c0 c1 c2 c3 c4 c5 cf hb1 hmap uu HF
     refine hK _ _ ?_
     clear hK K
     refine wpList_nil ?_
     refine And.intro ?_ ?_
     ·go_simp
     refine ap ?_
     obtain ⟨hv, wv, hs, ws, hr1, hr2, h2⟩ := aU s0.out
     obtain ⟨wa, wc, rfl⟩ := (h2.front 2 rfl).own_shape
     have hwl : ws.length = Q.waits.length := by rw [← hr2.1, List.length_map]
     have HL := BO (dk (ai (h2.drew.blk 3 rfl)))
     obtain ⟨c0, c1, c2, c3, c4, c5, cf⟩ := a7 (h2.blk 0 rfl)
     have ut := BO hr1
     have tR := BO hr2
     have hNb : ws.length ≤ 100000 := by omega
     have hat : at_ ≤ ws.length := by omega
     have td := BO (show Sat B D5 w6 (qbC q hv (.slice wa ws.length wc) :: bU hv hs :: aJ bg 18 (.slice wa ws.length wc) ws.length (ws.flatMap au) :: blk bz (au en).toArray bg :: blk bc c.cells.toArray tCl :: l) from h2)
     generalize hN : ws.length = N at *
     have HN := BO hN
     clear hr1 hr2 h2 hwl hN s0
     go_upto_region 16 with fail
     refine af [(0, false, 11), (1, false, 8), (2, false, 8), (3, false, 8), (4, false, 8), (5, false, 8), (6, false, 7), (7, true, 0), (8, true, 0), (9, false, 11), (10, false, 11), (11, true, 0)] (by kernel_rfl) (by kernel_rfl) ?_
     iterate 7 (refine ae rfl rfl (fun K hK => ?_); (first | ((refine aj _ _ rfl _ _ rfl _ HL.out ?_); go_simp) | go_simp); refine hK _ ?_; clear hK K)
     refine al rfl ?_
     refine aC rfl _ _ rfl bg i0 _ (au en) rfl Tryz.underlying108 HI.out.1 HI.out.2.1 (HI.out.2.2.1.trans rfl) (by rw [bM]; decide) (by rw [bM]; decide) ?_
     refine wpList_nil ?_
     obtain ⟨W8, hW8, hs8⟩ := Sat.hide (td.out.drew.alloc (au en).toArray bg)
     rw [← hW8]
     clear hW8 td HL c0 c1 c2 c3 c4 c5 cf
     generalize w6.drew.heap.size = by_ at hs8 ⊢
     obtain ⟨c0, c1, c2, c3, c4, c5, cf⟩ := a7 (hs8.blk 1 rfl)
     have tj := BO (show Sat B D5 W8 (aJ bg 18 (.slice wa N wc) N (ws.flatMap au) :: blk by_ (au en).toArray bg :: qbC q hv (.slice wa N wc) :: bU hv hs :: blk bz (au en).toArray bg :: blk bc c.cells.toArray tCl :: l) from hs8.front 3 rfl)
     clear hs8
     refine And.intro ?_ ?_
     ·go_simp
     refine al rfl ?_
     refine aw rfl (fun K hK => ?_)
     go_simp
     refine (mu (i := at_) hat (bM en) (eA en) by_ (by omega) tj.out).mono ?_
     rintro e9 w9 ⟨v9, rfl, hs9⟩
     rw [mV bM] at hs9
     obtain ⟨va, vc, rfl⟩ := hs9.own_shape
     clear c0 c1 c2 c3 c4 c5 cf tj
     obtain ⟨c0, c1, c2, c3, c4, c5, cf⟩ := a7 (hs9.blk 2 rfl)
     have ti := BO (Sat.set6 (hs9.front 2 rfl) (.slice va (N + 1) vc))
     clear hs9
     refine hK _ _ ?_
     clear hK K
     refine wpList_nil ?_
     refine And.intro ?_ ?_
     ·go_simp
     iterate 2 (refine ae rfl rfl (fun K hK => ?_); (first | ((refine aj _ _ rfl _ _ rfl _ HL.out ?_); go_simp) | go_simp); refine hK _ ?_; clear hK K)
     refine al rfl ?_
     refine wpList_plain rfl (fun K hK => ?_)
     go_simp
     refine hK _ _ ?_
     clear hK K
     refine wpList_nil ?_
     refine And.intro ?_ ?_
     ·go_simp
     refine ap ?_
     go_wp2_with fail
     go_ret
     rw [tk.out]
     refine ⟨D5, rfl, uf.out, ?_⟩
     have h7 := (ti.out.front 2 rfl).drop
     have h8 : Sat B D5 (w9.setCell ⟨q, 5, none⟩ (.slice va (N + 1) vc)) (qbC q hv (.slice va (N + 1) vc) :: bU hv hs :: bU (.slice va (N + 1) vc) (ws.take at_ ++ [en] ++ ws.drop at_) :: blk bz (au en).toArray bg :: blk bc c.cells.toArray tCl :: l) := by
      show Sat B D5 _ (qbC q _ _ :: bU hv hs :: aJ bg 18 _ (ws.take at_ ++ [en] ++ ws.drop at_).length _ :: _)
      rw [show (ws.take at_ ++ [en] ++ ws.drop at_).length = N + 1 by simp [HN.out]; omega]
      exact (h7.swap.front 2 rfl).rot.rot
     refine (cr (Q := ⟨Q.held, Q.waits.take at_ ++ [aG en] ++ Q.waits.drop at_⟩) ut.out ⟨?_, ?_⟩ h8).swap.drop.swap.drop
     ·rw [List.map_append, List.map_append, List.map_take, List.map_drop, tR.out.1]
      rfl
     ·intro x hx
      rcases List.mem_append.1 hx with hx | hx
      ·rcases List.mem_append.1 hx with hx | hx
       ·exact tR.out.2 x (List.mem_of_mem_take hx)
       ·obtain rfl := List.mem_singleton.1 hx
        exact tJ.out
      ·exact tR.out.2 x (List.mem_of_mem_drop hx)
   ·have HF := BO hf
    have tk := BO (show aV RC Q o (cdC c) b = (ci RC Q (aG en), true) by rw [uX.out b, hf]; simp)
    clear hf
    (try go_upto_region 12 with fail)
    obtain ⟨hv, wv, hs, ws, hr1, hr2, h2⟩ := aU sV.out.drew
    obtain ⟨wa, wc, rfl⟩ := (h2.front 2 rfl).own_shape
    have hwl : ws.length = Q.waits.length := by rw [← hr2.1, List.length_map]
    have hat : at_ ≤ ws.length := by omega
    have s5 := BO (Rd.takeE bM (h2.own 2 rfl).rd (m := at_) hat rfl)
    have ul := BO (fun (x : EntE) (hx : x ∈ ws.take at_) => (hr2.2 x (List.mem_of_mem_take hx) : ClOk D5 x.x))
    have uu := BO (show (ws.take at_).map aG = Q.waits.take at_ by rw [List.map_take, hr2.1])
    have HL := BO (dk (ai (h2.blk 3 rfl)))
    obtain ⟨c0, c1, c2, c3, c4, c5, cf⟩ := a7 (h2.blk 0 rfl)
    have hws : ws.length ≤ wc := by obtain ⟨_, _, _, _, hx, hy, _⟩ := (h2.own 2 rfl).rd; cases hx; exact hy
    have hb1 : (at_ : Int) ≤ (wc : Int) := by omega
    have hmap : Option.map (fun x => Addr.add x 0) wa = wa := by rcases (h2.own 2 rfl).2.2 with ⟨hx, _⟩ | ⟨g, c2, cur, hx, _⟩ <;> rw [(Value.slice.inj hx).1] <;> first | rfl | simp [bZ]
    generalize hN : ws.length = N at *
    clear hr1 hr2 h2 hwl hN hws
    refine af [(0, false, 8), (1, false, 8), (2, false, 8), (3, false, 8), (4, false, 8), (5, false, 8), (6, false, 8), (7, false, 8), (8, true, 0)] (by kernel_rfl) (by kernel_rfl) ?_
    iterate 8 (refine ae rfl rfl (fun K hK => ?_); (first | ((refine aj _ _ rfl _ _ rfl _ HL.out ?_); go_simp) | go_simp); refine hK _ ?_; clear hK K)
    refine al rfl ?_
    refine aw rfl (fun K hK => ?_)
    go_simp
    refine (fj en (HD.out.env sV.out.drew) (PH.le.refl _) tJ.out ul.out s5.out sV.out.drew).mono ?_
    rw [uu.out, vV.out, HF.out]
    rintro e6 w6 ⟨rfl, hk6⟩
    have s0 := BO (sV.out.drew.kept hk6)
    clear hk6 sV HL s5 ul c0 c1 c2 c3 c4 c5 cf hb1 hmap uu HF
    refine hK _ _ ?_
    clear hK K
    refine wpList_nil ?_
    refine And.intro ?_ ?_
    ·go_simp
    refine ap ?_
    have HL := BO (dk (ai (s0.out.blk 1 rfl)))
    go_wp2_with (first | (refine ag rfl _ _ rfl _ _ rfl _ HL.out ?_) | (go_at_call 136; refine (lV en hh (PH.le.refl _) tJ.out s0.out).mono ?_; rintro e7 w7 ⟨rfl, hs7⟩; have td := BO hs7; clear hs7 s0 HL))
    go_ret
    rw [tk.out]
    exact ⟨D5, rfl, uf.out, td.out.swap.drop.swap.drop⟩
  ·have tk := BO (show aV RC Q o (cdC c) b = (Q, true) by unfold aV cL; rw [yv.out]; simp only [HO.out, xG.out, hcv]; simp)
   have toq := BO hcv
   clear hcv
   go_enter Tryz.func87, Tryz.ntmps87
   go_upto_region 1 with fail
   rw [← vx.out]
   clear vx
   generalize w.heap.size = bc at *
   go_upto_region 3 with (go_at_call 82; refine HW.out.mono ?_; rintro e1 w1 ⟨rfl, hk1⟩; have sS := BO (HS.out.kept hk1); clear hk1 HS HW)
   have tg := BO (ay (ai (sS.out.blk 1 rfl)))
   have sX := BO (sS.out.alloc (au (mkC o c false)).toArray bg)
   clear sS
   go_upto_region 4 with (first | (refine ag rfl _ _ rfl _ _ rfl _ tg.out ?_) | (refine ek rfl _ _ rfl o c rfl rfl ?_) | (refine ax rfl _ _ _ rfl (au (mkC o c false)) _ _ rfl rfl (by kernel_rfl) rfl (eA _) ?_))
   clear tg
   obtain ⟨W2, hW2, hs2⟩ := Sat.hide sX.out
   rw [← hW2]
   clear hW2 sX
   generalize w1.heap.size = bz at hs2 ⊢
   have sX := BO hs2.swap
   have tg := BO (ay (ai (hs2.blk 2 rfl)))
   obtain ⟨hv, wv, hs, ws, hr1, hr2, h2⟩ := aU hs2.swap
   obtain ⟨wa, wc, rfl⟩ := (h2.front 2 rfl).own_shape
   obtain ⟨c0, c1, c2, c3, c4, c5, cf⟩ := a7 (h2.blk 0 rfl)
   generalize ws.length = nw at c5
   clear hs2 h2 hr1 hr2
   go_upto_region 6 with (first | (refine ag rfl _ _ rfl _ _ rfl _ tg.out ?_) | (go_at_call 133; refine (pC o c (PH.le.refl _) HC.out sX.out).mono ?_; rw [HK.out]; rintro e3 w3 ⟨rfl, hk3⟩; have s0 := BO (sX.out.kept hk3); clear hk3 sX tg c0 c1 c2 c3 c4 c5 cf))
   obtain ⟨hv, wv, hs, ws, hr1, hr2, h1⟩ := aU s0.out
   obtain ⟨x, hx, hxe⟩ : ∃ x, hs[k]? = some x ∧ aG x = x0 := by
    have hx0 := xG.out
    rw [← hr1.1, List.getElem?_map] at hx0
    cases hxx : hs[k]? with
    | none => rw [hxx] at hx0; cases hx0
    | some x => rw [hxx] at hx0; exact ⟨x, rfl, Option.some.inj hx0⟩
   have vQ := BO (show x.x.c = x0.c by rw [← hxe])
   have uW := BO (show ClOk D x.x from hr1.2 x (List.mem_of_getElem? hx))
   obtain ⟨ha, hcp, rfl⟩ := (h1.front 1 rfl).own_shape
   obtain ⟨g, og, rfl, hrng⟩ := aD bM (h1.own 1 rfl).rd hx rfl
   have uC := BO (ay (lT hrng))
   obtain ⟨c0, c1, c2, c3, c4, c5, cf⟩ := a7 (h1.blk 0 rfl)
   have hkl : (k : Int) < (hs.length : Int) := by have := (List.getElem?_eq_some_iff.1 hx).1; omega
   generalize hs.length = nh at c4 hkl
   clear hr1 hr2 h1 hx hxe hrng
   have td := BO ((s0.out.alloc x.x.cells.toArray tCl).swap)
   go_upto_region 8 with (first | (refine ag rfl _ _ rfl _ _ rfl _ uC.out ?_) | (refine ax rfl _ _ _ rfl x.x.cells _ _ rfl rfl (by kernel_rfl) rfl (ClmE.one _) ?_))
   clear uC s0 c0 c1 c2 c3 c4 c5 cf
   obtain ⟨W7, hW7, hs7⟩ := Sat.hide td.out
   rw [← hW7]
   clear hW7 td
   generalize w3.heap.size = bh at hs7 ⊢
   have td := BO (show Sat B D W7 (bP D q Q :: blk bh x.x.cells.toArray tCl :: blk bz (au (mkC o c false)).toArray bg :: blk bc c.cells.toArray tCl :: l) from hs7)
   clear hs7
   obtain ⟨hv, wv, hs, ws, hr1, hr2, h3⟩ := aU td.out
   obtain ⟨c0, c1, c2, c3, c4, c5, cf⟩ := a7 (h3.blk 0 rfl)
   clear hr1 hr2 h3
   have uC := BO (ay (w := W7.drew) (ai (td.out.drew.blk 1 rfl)))
   have tg := BO (ay (w := W7.drew) (ai (td.out.drew.blk 3 rfl)))
   have uy := BO (cov_C (zh.out.env td.out.drew) (uW.out.rd td.out.drew) (HC.out.rd td.out.drew))
   rw [vQ.out, toq.out] at uy
   refine af [(0, false, 7), (1, false, 7), (2, false, 7), (3, false, 7), (4, false, 7), (5, false, 7), (6, false, 7), (7, true, 0)] (by kernel_rfl) (by kernel_rfl) ?_
   iterate 7 (refine ae rfl rfl (fun K hK => ?_); (first | ((refine aj _ _ rfl _ _ rfl _ uC.out ?_); go_simp) | ((refine aj _ _ rfl _ _ rfl _ tg.out ?_); go_simp) | go_simp); refine hK _ ?_; clear hK K)
   refine al rfl ?_
   refine aw rfl (fun K hK => ?_)
   go_simp
   refine uy.out.mono ?_
   rintro e4 w4 ⟨rfl, hk4⟩
   have tj := BO (td.out.drew.kept hk4)
   clear hk4 td uy uC tg c0 c1 c2 c3 c4 c5 cf
   obtain ⟨hv, wv, hs, ws, hr1, hr2, h3⟩ := aU tj.out
   obtain ⟨c0, c1, c2, c3, c4, c5, cf⟩ := a7 (h3.blk 0 rfl)
   clear hr1 hr2 h3
   have uC := BO (ay (ai (tj.out.blk 1 rfl)))
   have tg := BO (ay (ai (tj.out.blk 3 rfl)))
   refine hK _ _ ?_
   clear hK K
   refine wpList_nil ?_
   refine And.intro ?_ ?_
   ·go_simp
   refine ap ?_
   go_wp2_with fail
   go_ret
   rw [tk.out]
   exact ⟨D, rfl, PH.le.refl _, tj.out.swap.drop.swap.drop.swap.drop⟩
 ·have uQ := BO (show cL RC Q o (cdC c) = some (⟨o, cdC c, false⟩, Q.waits.length) by unfold cL; rw [ho])
  have uG := BO hk
  clear ho hk
  obtain ⟨at_, hat_⟩ : ∃ n, n = Q.waits.length := ⟨_, rfl⟩
  rw [← hat_] at uQ
  have hat0 : at_ ≤ Q.waits.length := by omega
  have uR := BO hat_
  clear hat_
  go_enter Tryz.func87, Tryz.ntmps87
  go_upto_region 1 with fail
  rw [← vx.out]
  clear vx
  generalize w.heap.size = bc at *
  go_upto_region 3 with (go_at_call 82; refine HW.out.mono ?_; rintro e1 w1 ⟨rfl, hk1⟩; have sS := BO (HS.out.kept hk1); clear hk1 HS HW)
  have tg := BO (ay (ai (sS.out.blk 1 rfl)))
  have sX := BO (sS.out.alloc (au (mkC o c false)).toArray bg)
  clear sS
  go_upto_region 4 with (first | (refine ag rfl _ _ rfl _ _ rfl _ tg.out ?_) | (refine ek rfl _ _ rfl o c rfl rfl ?_) | (refine ax rfl _ _ _ rfl (au (mkC o c false)) _ _ rfl rfl (by kernel_rfl) rfl (eA _) ?_))
  clear tg
  obtain ⟨W2, hW2, hs2⟩ := Sat.hide sX.out
  rw [← hW2]
  clear hW2 sX
  generalize w1.heap.size = bz at hs2 ⊢
  have sX := BO hs2.swap
  have tg := BO (ay (ai (hs2.blk 2 rfl)))
  obtain ⟨hv, wv, hs, ws, hr1, hr2, h2⟩ := aU hs2.swap
  obtain ⟨wa, wc, rfl⟩ := (h2.front 2 rfl).own_shape
  have hwl : ws.length = at_ := by rw [← List.length_map (f := aG), hr2.1, uR.out]
  obtain ⟨c0, c1, c2, c3, c4, c5, cf⟩ := a7 (h2.blk 0 rfl)
  rw [hwl] at c5
  clear hs2 h2 hr1 hr2 hwl
  go_upto_region 6 with (first | (refine ag rfl _ _ rfl _ _ rfl _ tg.out ?_) | (go_at_call 133; refine (pC o c (PH.le.refl _) HC.out sX.out).mono ?_; rw [uG.out]; rintro e3 w3 ⟨rfl, hk3⟩; have sV := BO (sX.out.kept hk3); clear hk3 sX tg c0 c1 c2 c3 c4 c5 cf))
  obtain ⟨en, hen⟩ : ∃ en : EntE, en = mkC o c false := ⟨_, rfl⟩
  have vV := BO (show en.o = o by rw [hen])
  have tJ := BO (show OkC D en by rw [hen]; exact HC.out)
  have HD := BO zh.out
  have uf := BO (PH.le.refl D)
  have uX := BO (show ∀ b, aV RC Q o (cdC c) b = _ from fun b => jB (b := b) (e := aG en) yv.out (by rw [hen, uQ.out]))
  have hs5 := sV.out
  rw [← hen] at hs5
  clear sV hen uQ
  have sV := BO hs5
  clear hs5
  cases hf : dB RC Q o (aG en).c (Q.waits.take at_)
  ·have HF := BO hf
   cases b
   ·have tk := BO (show aV RC Q o (cdC c) false = (Q, false) by rw [uX.out false, hf]; simp)
    clear hf
    (try go_upto_region 12 with fail)
    obtain ⟨hv, wv, hs, ws, hr1, hr2, h2⟩ := aU sV.out.drew
    obtain ⟨wa, wc, rfl⟩ := (h2.front 2 rfl).own_shape
    have hwl : ws.length = Q.waits.length := by rw [← hr2.1, List.length_map]
    have hat : at_ ≤ ws.length := by omega
    have s5 := BO (Rd.takeE bM (h2.own 2 rfl).rd (m := at_) hat rfl)
    have ul := BO (fun (x : EntE) (hx : x ∈ ws.take at_) => (hr2.2 x (List.mem_of_mem_take hx) : ClOk D x.x))
    have uu := BO (show (ws.take at_).map aG = Q.waits.take at_ by rw [List.map_take, hr2.1])
    have HL := BO (dk (ai (h2.blk 3 rfl)))
    obtain ⟨c0, c1, c2, c3, c4, c5, cf⟩ := a7 (h2.blk 0 rfl)
    have hws : ws.length ≤ wc := by obtain ⟨_, _, _, _, hx, hy, _⟩ := (h2.own 2 rfl).rd; cases hx; exact hy
    have hb1 : (at_ : Int) ≤ (wc : Int) := by omega
    have hmap : Option.map (fun x => Addr.add x 0) wa = wa := by rcases (h2.own 2 rfl).2.2 with ⟨hx, _⟩ | ⟨g, c2, cur, hx, _⟩ <;> rw [(Value.slice.inj hx).1] <;> first | rfl | simp [bZ]
    generalize hN : ws.length = N at *
    clear hr1 hr2 h2 hwl hN hws
    refine af [(0, false, 8), (1, false, 8), (2, false, 8), (3, false, 8), (4, false, 8), (5, false, 8), (6, false, 8), (7, false, 8), (8, true, 0)] (by kernel_rfl) (by kernel_rfl) ?_
    iterate 8 (refine ae rfl rfl (fun K hK => ?_); (first | ((refine aj _ _ rfl _ _ rfl _ HL.out ?_); go_simp) | go_simp); refine hK _ ?_; clear hK K)
    refine al rfl ?_
    refine aw rfl (fun K hK => ?_)
    go_simp
    refine (fj en (HD.out.env sV.out.drew) (PH.le.refl _) tJ.out ul.out s5.out sV.out.drew).mono ?_
    rw [uu.out, vV.out, HF.out]
    rintro e6 w6 ⟨rfl, hk6⟩
    have s0 := BO (sV.out.drew.kept hk6)
    clear hk6 sV HL s5 ul c0 c1 c2 c3 c4 c5 cf hb1 hmap uu HF
    refine hK _ _ ?_
    clear hK K
    refine wpList_nil ?_
    refine And.intro ?_ ?_
    ·go_simp
    refine ap ?_
    go_wp2_with fail
    go_ret
    rw [tk.out]
    exact ⟨D, rfl, uf.out, s0.out.swap.drop.swap.drop⟩
   ·have tk := BO (show aV RC Q o (cdC c) true = (⟨Q.held, Q.waits.take at_ ++ [aG en] ++ Q.waits.drop at_⟩, false) by rw [uX.out true, hf]; simp)
    clear hf
    (try go_upto_region 12 with fail)
    obtain ⟨hv, wv, hs, ws, hr1, hr2, h2⟩ := aU sV.out.drew
    obtain ⟨wa, wc, rfl⟩ := (h2.front 2 rfl).own_shape
    have hwl : ws.length = Q.waits.length := by rw [← hr2.1, List.length_map]
    have hat : at_ ≤ ws.length := by omega
    have s5 := BO (Rd.takeE bM (h2.own 2 rfl).rd (m := at_) hat rfl)
    have ul := BO (fun (x : EntE) (hx : x ∈ ws.take at_) => (hr2.2 x (List.mem_of_mem_take hx) : ClOk D x.x))
    have uu := BO (show (ws.take at_).map aG = Q.waits.take at_ by rw [List.map_take, hr2.1])
    have HL := BO (dk (ai (h2.blk 3 rfl)))
    obtain ⟨c0, c1, c2, c3, c4, c5, cf⟩ := a7 (h2.blk 0 rfl)
    have hws : ws.length ≤ wc := by obtain ⟨_, _, _, _, hx, hy, _⟩ := (h2.own 2 rfl).rd; cases hx; exact hy
    have hb1 : (at_ : Int) ≤ (wc : Int) := by omega
    have hmap : Option.map (fun x => Addr.add x 0) wa = wa := by rcases (h2.own 2 rfl).2.2 with ⟨hx, _⟩ | ⟨g, c2, cur, hx, _⟩ <;> rw [(Value.slice.inj hx).1] <;> first | rfl | simp [bZ]
    generalize hN : ws.length = N at *
    clear hr1 hr2 h2 hwl hN hws
    refine af [(0, false, 8), (1, false, 8), (2, false, 8), (3, false, 8), (4, false, 8), (5, false, 8), (6, false, 8), (7, false, 8), (8, true, 0)] (by kernel_rfl) (by kernel_rfl) ?_
    iterate 8 (refine ae rfl rfl (fun K hK => ?_); (first | ((refine aj _ _ rfl _ _ rfl _ HL.out ?_); go_simp) | go_simp); refine hK _ ?_; clear hK K)
    refine al rfl ?_
    refine aw rfl (fun K hK => ?_)
    go_simp
    refine (fj en (HD.out.env sV.out.drew) (PH.le.refl _) tJ.out ul.out s5.out sV.out.drew).mono ?_
    rw [uu.out, vV.out, HF.out]
    rintro e6 w6 ⟨rfl, hk6⟩
    have s0 := BO (sV.out.drew.kept hk6)
    clear hk6 sV HL s5 ul c0 c1 c2 c3 c4 c5 cf hb1 hmap uu HF
    refine hK _ _ ?_
    clear hK K
    refine wpList_nil ?_
    refine And.intro ?_ ?_
    ·go_simp
    refine ap ?_
    obtain ⟨hv, wv, hs, ws, hr1, hr2, h2⟩ := aU s0.out
    obtain ⟨wa, wc, rfl⟩ := (h2.front 2 rfl).own_shape
    have hwl : ws.length = Q.waits.length := by rw [← hr2.1, List.length_map]
    have HL := BO (dk (ai (h2.drew.blk 3 rfl)))
    obtain ⟨c0, c1, c2, c3, c4, c5, cf⟩ := a7 (h2.blk 0 rfl)
    have ut := BO hr1
    have tR := BO hr2
    have hNb : ws.length ≤ 100000 := by omega
    have hat : at_ ≤ ws.length := by omega
    have td := BO (show Sat B D w6 (qbC q hv (.slice wa ws.length wc) :: bU hv hs :: aJ bg 18 (.slice wa ws.length wc) ws.length (ws.flatMap au) :: blk bz (au en).toArray bg :: blk bc c.cells.toArray tCl :: l) from h2)
    generalize hN : ws.length = N at *
    have HN := BO hN
    clear hr1 hr2 h2 hwl hN s0
    go_upto_region 16 with fail
    refine af [(0, false, 11), (1, false, 8), (2, false, 8), (3, false, 8), (4, false, 8), (5, false, 8), (6, false, 7), (7, true, 0), (8, true, 0), (9, false, 11), (10, false, 11), (11, true, 0)] (by kernel_rfl) (by kernel_rfl) ?_
    iterate 7 (refine ae rfl rfl (fun K hK => ?_); (first | ((refine aj _ _ rfl _ _ rfl _ HL.out ?_); go_simp) | go_simp); refine hK _ ?_; clear hK K)
    refine al rfl ?_
    refine aC rfl _ _ rfl bg i0 _ (au en) rfl Tryz.underlying108 HI.out.1 HI.out.2.1 (HI.out.2.2.1.trans rfl) (by rw [bM]; decide) (by rw [bM]; decide) ?_
    refine wpList_nil ?_
    obtain ⟨W8, hW8, hs8⟩ := Sat.hide (td.out.drew.alloc (au en).toArray bg)
    rw [← hW8]
    clear hW8 td HL c0 c1 c2 c3 c4 c5 cf
    generalize w6.drew.heap.size = by_ at hs8 ⊢
    obtain ⟨c0, c1, c2, c3, c4, c5, cf⟩ := a7 (hs8.blk 1 rfl)
    have tj := BO (show Sat B D W8 (aJ bg 18 (.slice wa N wc) N (ws.flatMap au) :: blk by_ (au en).toArray bg :: qbC q hv (.slice wa N wc) :: bU hv hs :: blk bz (au en).toArray bg :: blk bc c.cells.toArray tCl :: l) from hs8.front 3 rfl)
    clear hs8
    refine And.intro ?_ ?_
    ·go_simp
    refine al rfl ?_
    refine aw rfl (fun K hK => ?_)
    go_simp
    refine (mu (i := at_) hat (bM en) (eA en) by_ (by omega) tj.out).mono ?_
    rintro e9 w9 ⟨v9, rfl, hs9⟩
    rw [mV bM] at hs9
    obtain ⟨va, vc, rfl⟩ := hs9.own_shape
    clear c0 c1 c2 c3 c4 c5 cf tj
    obtain ⟨c0, c1, c2, c3, c4, c5, cf⟩ := a7 (hs9.blk 2 rfl)
    have ti := BO (Sat.set6 (hs9.front 2 rfl) (.slice va (N + 1) vc))
    clear hs9
    refine hK _ _ ?_
    clear hK K
    refine wpList_nil ?_
    refine And.intro ?_ ?_
    ·go_simp
    iterate 2 (refine ae rfl rfl (fun K hK => ?_); (first | ((refine aj _ _ rfl _ _ rfl _ HL.out ?_); go_simp) | go_simp); refine hK _ ?_; clear hK K)
    refine al rfl ?_
    refine wpList_plain rfl (fun K hK => ?_)
    go_simp
    refine hK _ _ ?_
    clear hK K
    refine wpList_nil ?_
    refine And.intro ?_ ?_
    ·go_simp
    refine ap ?_
    go_wp2_with fail
    go_ret
    rw [tk.out]
    refine ⟨D, rfl, uf.out, ?_⟩
    have h7 := (ti.out.front 2 rfl).drop
    have h8 : Sat B D (w9.setCell ⟨q, 5, none⟩ (.slice va (N + 1) vc)) (qbC q hv (.slice va (N + 1) vc) :: bU hv hs :: bU (.slice va (N + 1) vc) (ws.take at_ ++ [en] ++ ws.drop at_) :: blk bz (au en).toArray bg :: blk bc c.cells.toArray tCl :: l) := by
     show Sat B D _ (qbC q _ _ :: bU hv hs :: aJ bg 18 _ (ws.take at_ ++ [en] ++ ws.drop at_).length _ :: _)
     rw [show (ws.take at_ ++ [en] ++ ws.drop at_).length = N + 1 by simp [HN.out]; omega]
     exact (h7.swap.front 2 rfl).rot.rot
    refine (cr (Q := ⟨Q.held, Q.waits.take at_ ++ [aG en] ++ Q.waits.drop at_⟩) ut.out ⟨?_, ?_⟩ h8).swap.drop.swap.drop
    ·rw [List.map_append, List.map_append, List.map_take, List.map_drop, tR.out.1]
     rfl
    ·intro x hx
     rcases List.mem_append.1 hx with hx | hx
     ·rcases List.mem_append.1 hx with hx | hx
      ·exact tR.out.2 x (List.mem_of_mem_take hx)
      ·obtain rfl := List.mem_singleton.1 hx
       exact tJ.out
     ·exact tR.out.2 x (List.mem_of_mem_drop hx)
  ·have HF := BO hf
   have tk := BO (show aV RC Q o (cdC c) b = (ci RC Q (aG en), true) by rw [uX.out b, hf]; simp)
   clear hf
   (try go_upto_region 12 with fail)
   obtain ⟨hv, wv, hs, ws, hr1, hr2, h2⟩ := aU sV.out.drew
   obtain ⟨wa, wc, rfl⟩ := (h2.front 2 rfl).own_shape
   have hwl : ws.length = Q.waits.length := by rw [← hr2.1, List.length_map]
   have hat : at_ ≤ ws.length := by omega
   have s5 := BO (Rd.takeE bM (h2.own 2 rfl).rd (m := at_) hat rfl)
   have ul := BO (fun (x : EntE) (hx : x ∈ ws.take at_) => (hr2.2 x (List.mem_of_mem_take hx) : ClOk D x.x))
   have uu := BO (show (ws.take at_).map aG = Q.waits.take at_ by rw [List.map_take, hr2.1])
   have HL := BO (dk (ai (h2.blk 3 rfl)))
   obtain ⟨c0, c1, c2, c3, c4, c5, cf⟩ := a7 (h2.blk 0 rfl)
   have hws : ws.length ≤ wc := by obtain ⟨_, _, _, _, hx, hy, _⟩ := (h2.own 2 rfl).rd; cases hx; exact hy
   have hb1 : (at_ : Int) ≤ (wc : Int) := by omega
   have hmap : Option.map (fun x => Addr.add x 0) wa = wa := by rcases (h2.own 2 rfl).2.2 with ⟨hx, _⟩ | ⟨g, c2, cur, hx, _⟩ <;> rw [(Value.slice.inj hx).1] <;> first | rfl | simp [bZ]
   generalize hN : ws.length = N at *
   clear hr1 hr2 h2 hwl hN hws
   refine af [(0, false, 8), (1, false, 8), (2, false, 8), (3, false, 8), (4, false, 8), (5, false, 8), (6, false, 8), (7, false, 8), (8, true, 0)] (by kernel_rfl) (by kernel_rfl) ?_
   iterate 8 (refine ae rfl rfl (fun K hK => ?_); (first | ((refine aj _ _ rfl _ _ rfl _ HL.out ?_); go_simp) | go_simp); refine hK _ ?_; clear hK K)
   refine al rfl ?_
   refine aw rfl (fun K hK => ?_)
   go_simp
   refine (fj en (HD.out.env sV.out.drew) (PH.le.refl _) tJ.out ul.out s5.out sV.out.drew).mono ?_
   rw [uu.out, vV.out, HF.out]
   rintro e6 w6 ⟨rfl, hk6⟩
   have s0 := BO (sV.out.drew.kept hk6)
   clear hk6 sV HL s5 ul c0 c1 c2 c3 c4 c5 cf hb1 hmap uu HF
   refine hK _ _ ?_
   clear hK K
   refine wpList_nil ?_
   refine And.intro ?_ ?_
   ·go_simp
   refine ap ?_
   have HL := BO (dk (ai (s0.out.blk 1 rfl)))
   go_wp2_with (first | (refine ag rfl _ _ rfl _ _ rfl _ HL.out ?_) | (go_at_call 136; refine (lV en hh (PH.le.refl _) tJ.out s0.out).mono ?_; rintro e7 w7 ⟨rfl, hs7⟩; have td := BO hs7; clear hs7 s0 HL))
   go_ret
   rw [tk.out]
   exact ⟨D, rfl, uf.out, td.out.swap.drop.swap.drop⟩
end Go.Proofs.YtgljdkjepdknnaaGreatDoor
