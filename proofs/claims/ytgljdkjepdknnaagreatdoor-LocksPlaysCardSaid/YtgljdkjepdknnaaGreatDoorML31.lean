/- The document's queue: asking (ratlineref10.Queue.Ask). (printed by genrqask.py) -/
import Derived.Test.YtgljdkjepdknnaaGreatDoorML30
import Derived.Test.YtgljdkjepdknnaaGreatDoorML21
set_option maxHeartbeats 64000000
namespace Go.Proofs.YtgljdkjepdknnaaGreatDoor
open Go.ChangeShapes Go.WideShapes Go.ChangeAt Go.RowKit
set_option maxRecDepth 100000
set_option linter.unusedSimpArgs false
theorem lE (w : World) (n : Int) (x : ClmE) (m : Bool) : (Instr.build tRe #[(0, .int .i64 n), (1, .agg x.cells.toArray), (2, .bool m)]).run Tryz.prog w = .ok (.agg (ay (mkC n x m)).toArray) w := run_build w _ _ _ (by kernel_rfl)
theorem fJ {w : World} {o : Oper} {a : Act} {ops : Array Oper} {rest : List Oper} {Q : Exit → Act → World → Prop} (hgd : o.guard = none) (xo xc xm : Operand) (ho : o.op = .build tRe #[(0, xo), (1, xc), (2, xm)]) (n : Int) (x : ClmE) (m : Bool) (h1 : a.eval xo = .int .i64 n) (h2 : a.eval xc = .agg x.cells.toArray) (h3 : a.eval xm = .bool m)
  (h : wpList Tryz.prog ops Q rest (a.put o.dst (.agg (ay (mkC n x m)).toArray)) w) : wpList Tryz.prog ops Q (o :: rest) a w :=
 wpList_plain hgd fun _ hK => by
  have hrun := lE w n x m
  unfold Oper.wp execOp
  simp only [ho, List.map_toArray, List.map_cons, List.map_nil, h1, h2, h3, Sem.run_bind, Sem.run_pure, Result.andThen_ok, hrun]
  exact hK _ _ h
def AskGot (B : World) (D : PH) (l : List HP) (R : Qm Clm × Bool) (r : Ending) (w' : World) : Prop := ∃ (v : Value) (D' : PH), r = .returned (.tuple #[v, .bool R.2]) ∧ PH.le D D' ∧ QueD D' v R.1 ∧ Sat B D' w' l
theorem pt {ws : List EntE} {Q : Qm Clm} (hok : QOk Q) (h : ws.map aE = Q.waits) : (ws.filter (fun e => e.more)).map aE = Q.waits.take (cA Q.waits) ∧ (ws.filter (fun e => e.more)).length = cA Q.waits := by
 have e : (ws.filter (fun e => e.more)).map aE = Q.waits.take (cA Q.waits) := by
  rw [ke, r8 hok.mores, ← h, List.filter_map]
  rfl
 refine ⟨e, ?_⟩
 have := congrArg List.length e
 rw [List.length_map, List.length_take] at this
 have := fX Q.waits
 omega
theorem kU {B w : World} {D : PH} {l : List HP} {v : Value} {Q : Qm Clm} (o : Int) (c : ClmE) (only : Bool) (hok : QOk Q) (hq : QueD D v Q) (hc : ClOk D c) (hfit : bV c.c) (hsm : ClmSm 1000000 c.c) (hqs : ∀ e ∈ Q.held, ClmSm 1000000 e.c) (hh : Q.held.length ≤ 1000) (hw : Q.waits.length ≤ 1000) (s : Sat B D w l) :
  Calls Tryz.prog 102 #[v, .int .i64 o, .agg c.cells.toArray, .bool only] w (AskGot B D l (bj RC Q o c.c (!only))) := by
 obtain ⟨i0, hi, hz0, hz1, hz2⟩ := info_parts gJ
 have HI := Eh (And.intro hi (And.intro hz0 (And.intro hz1 hz2)))
 have HQ := Eh hq
 obtain ⟨hv, wv, hs, ws, rfl, hH, hW, hhq, hwq⟩ := hq
 obtain ⟨ha, hcp, rfl⟩ := hH.1.shape
 obtain ⟨wa, wc, rfl⟩ := hW.1.shape
 have hhl : hs.length ≤ Q.held.length ∧ Q.held.length ≤ hs.length := by have := congrArg List.length hhq; rw [List.length_map] at this; omega
 have Bl := Eh (show ws.length = Q.waits.length by rw [← hwq, List.length_map])
 have hwl : ws.length ≤ Q.waits.length ∧ Q.waits.length ≤ ws.length := by have := Bl.out; omega
 have hhl2 : hs.length ≤ 1000 := by omega
 have hwl2 : ws.length ≤ 1000 := by omega
 obtain ⟨W1, hW1, hs1⟩ := d9 s #[.slice ha hs.length hcp, .slice wa ws.length wc] c.cells.toArray nQ tRq tCl tRq
 have xg := Eh (qj o HQ.out hs1)
 have vU := Eh (bv (ak (hs1.blk 0 rfl)))
 have wD := Eh (show ∀ u ∈ [Value.slice ha hs.length hcp, .slice wa ws.length wc], u.oneCell' = true from fun u hu => by simp at hu; rcases hu with rfl | rfl <;> rfl)
 have uW := Eh hW1
 have AW := Eh hok
 have HH := Eh hH
 have wQ := Eh hW
 have xL := Eh hhq
 have xJ := Eh hwq
 have HC := Eh hc
 have yg := Eh hfit
 have wx := Eh hsm
 have zZ := Eh hqs
 clear s hs1 hW1 hi hz0 hz1 hz2 hH hW hhq hwq hc hfit hsm hqs hok
 cases hwt : (aP Q o).2
 rotate_left
 ·have vy := Eh (show bj RC Q o c.c (!only) = (Q, false) by unfold bj; rw [if_pos (by rw [← eH]; exact hwt)])
  rw [hwt] at xg
  clear hwt
  go_enter Tryz.func102, Tryz.ntmps102
  go_upto_region 1 with fail
  rw [← uW.out]
  clear uW
  generalize w.heap.size + 1 + 1 = b3 at *
  generalize w.heap.size + 1 = b2 at *
  generalize w.heap.size = b1 at *
  go_upto_region 2 with (first | (refine ai rfl _ _ rfl _ _ rfl _ vU.out ?_) | (go_at_call 144; refine xg.out.mono ?_; rintro e1 w1 ⟨rfl, hs2⟩; have zK := Eh (bv (ak (hs2.blk 0 rfl))); have yF := Eh (hs2.front 2 rfl); clear hs2 xg vU))
  go_wp2_with (first | (refine ai rfl _ _ rfl _ _ rfl _ zK.out ?_) | (refine ap rfl _ _ _ rfl tRq b3 rfl [.slice ha hs.length hcp, .slice wa ws.length wc] rfl nQ yF.out (by kernel_rfl) rfl wD.out ?_; intro w20 hs20; have vq := Eh hs20; clear hs20 yF zK))
  refine bodyPost_ret (aL rfl _ _ rfl (bv (ak (vq.out.blk 0 rfl)))) rfl ?_
  rw [vy.out]
  exact ⟨_, D, rfl, PH.le.refl _, HQ.out, vq.out.drop.drop.drop⟩
 rw [hwt] at xg
 have AQ := Eh (show (bJ Q.waits o).isSome = false by rw [← eH]; exact hwt)
 clear hwt
 rcases iz (R := RC) Q.held o c.c with ⟨k, ho, hk, hlt⟩ | ⟨ho, hk⟩
 ·obtain ⟨e0, he0⟩ : ∃ e, hs[k]? = some e := ⟨hs[k]'(by omega), List.getElem?_eq_getElem _⟩
  have z6 := Eh (show Q.held[k]? = some (aE e0) by rw [← xL.out, List.getElem?_map, he0]; rfl)
  have Cd := Eh he0
  have hkl : (k : Int) < (hs.length : Int) := by omega
  have hk0 : (k : Int) ≥ 0 := by omega
  have HK := Eh (show cz (cH RC o c.c) Q.held = (k : Int) from hk)
  have HO := Eh ho
  clear ho hk he0
  go_enter Tryz.func102, Tryz.ntmps102
  go_upto_region 1 with fail
  rw [← uW.out]
  clear uW
  generalize w.heap.size + 1 + 1 = b3 at *
  generalize w.heap.size + 1 = b2 at *
  generalize w.heap.size = b1 at *
  go_upto_region 3 with (first | (refine ai rfl _ _ rfl _ _ rfl _ vU.out ?_) | (go_at_call 144; refine xg.out.mono ?_; rintro e1 w1 ⟨rfl, hs2⟩; have vg := Eh hs2; clear hs2 xg vU))
  have vU := Eh (bv (ak (vg.out.blk 0 rfl)))
  have vr := Eh (az (ak (vg.out.blk 1 rfl)))
  have hown := k5 (wv := .slice wa ws.length wc) o (HH.out.rd vg.out) (HC.out.rd vg.out)
  rw [fV (cH RC o c.c) hs, xL.out, HK.out] at hown
  have xb := Eh hown
  clear hown
  go_upto_region 4 with (first | (refine ai rfl _ _ rfl _ _ rfl _ vU.out ?_) | (refine ai rfl _ _ rfl _ _ rfl _ vr.out ?_) | (go_at_call 145; refine xb.out.mono ?_; rintro e3 w3 ⟨rfl, hk3⟩; have uY := Eh (vg.out.kept hk3); clear hk3 vg xb vU vr))
  have vr := Eh (az (ak (uY.out.blk 1 rfl)))
  have vh := Eh (uY.out.alloc (ay (mkC o c true)).toArray tRe)
  clear uY
  go_upto_region 5 with (first | (refine ai rfl _ _ rfl _ _ rfl _ vr.out ?_) | (refine fJ rfl _ _ _ rfl o c true rfl rfl rfl ?_) | (refine ax rfl _ _ _ rfl (ay (mkC o c true)) _ _ rfl rfl (by kernel_rfl) rfl (eE _) ?_))
  clear vr
  obtain ⟨W4, hW4, hs4⟩ := Sat.hide vh.out
  rw [← hW4]
  clear hW4 vh
  generalize w3.heap.size = bz at hs4 ⊢
  have vh := Eh (show Sat B D W4 (blk bz (ay (mkC o c true)).toArray tRe :: blk b1 #[.slice ha hs.length hcp, .slice wa ws.length wc] tRq :: blk b2 c.cells.toArray tCl :: blk b3 nQ tRq :: l) from hs4)
  clear hs4
  obtain ⟨q0, q1, qf⟩ := aJ (vh.out.blk 1 rfl)
  go_upto_region 7 with fail
  obtain ⟨g, og, hg, _, hr2, y0, hre, hfe⟩ := dQ (HH.out.rd vh.out) rfl Cd.out
  subst hg
  have xG := Eh (HH.out.2 e0 (List.mem_of_getElem? Cd.out))
  have wY := Eh (az (w := W4.drew) hr2)
  have vr := Eh (az (w := W4.drew) (ak (vh.out.drew.blk 2 rfl)))
  have wT := Eh (rF (w := W4.drew) (xG.out.1.rd vh.out.drew) (HC.out.rd vh.out.drew))
  clear hr2 y0 hre hfe
  cases hcv : RC.cov e0.x.c c.c
  rotate_left
  ·rw [hcv] at wT
   have vy := Eh (show bj RC Q o c.c (!only) = (Q, true) by unfold bj; rw [if_neg (by rw [AQ.out]; simp)]; unfold dj; rw [HO.out]; dsimp only; rw [z6.out]; dsimp only; rw [if_pos hcv])
   clear hcv
   refine ag [(0, false, 7), (1, false, 7), (2, false, 7), (3, false, 7), (4, false, 7), (5, false, 7), (6, false, 7), (7, true, 0)] (by kernel_rfl) (by kernel_rfl) ?_
   iterate 7 (refine af rfl rfl (fun K hK => ?_); (first | ((refine aj _ _ rfl _ _ rfl _ wY.out ?_); go_simp) | ((refine aj _ _ rfl _ _ rfl _ vr.out ?_); go_simp) | go_simp); refine hK _ ?_; clear hK K)
   refine al rfl ?_
   refine aw rfl (fun K hK => ?_)
   go_simp
   refine wT.out.mono ?_
   rintro e5 w5 ⟨rfl, hk5⟩
   have uZ := Eh (vh.out.drew.kept hk5)
   clear hk5 wT wY vr vh q0 q1 qf
   have zK := Eh (bv (ak (uZ.out.blk 1 rfl)))
   refine hK _ _ ?_
   clear hK K
   refine wpList_nil ?_
   refine And.intro ?_ ?_
   ·go_simp
   refine ar ?_
   have yF := Eh (uZ.out.front 3 rfl)
   clear uZ
   go_wp2_with (first | (refine ai rfl _ _ rfl _ _ rfl _ zK.out ?_) | (refine ap rfl _ _ _ rfl tRq b3 rfl [.slice (some ⟨g, og, none⟩) hs.length hcp, .slice wa ws.length wc] rfl nQ yF.out (by kernel_rfl) rfl wD.out ?_; intro w20 hs20; have vq := Eh hs20; clear hs20 yF zK))
   refine bodyPost_ret (aL rfl _ _ rfl (bv (ak (vq.out.blk 0 rfl)))) rfl ?_
   rw [vy.out]
   exact ⟨_, D, rfl, PH.le.refl _, HQ.out, vq.out.drop.drop.drop.drop⟩
  rw [hcv] at wT
  have x9 := Eh (show dj RC Q o c.c = some (⟨o, RC.join e0.x.c c.c, true⟩, cA Q.waits) by unfold dj; rw [HO.out]; dsimp only; rw [z6.out]; dsimp only; rw [if_neg (by rw [hcv]; simp)])
  clear hcv
  refine ag [(0, false, 7), (1, false, 7), (2, false, 7), (3, false, 7), (4, false, 7), (5, false, 7), (6, false, 7), (7, true, 0)] (by kernel_rfl) (by kernel_rfl) ?_
  iterate 7 (refine af rfl rfl (fun K hK => ?_); (first | ((refine aj _ _ rfl _ _ rfl _ wY.out ?_); go_simp) | ((refine aj _ _ rfl _ _ rfl _ vr.out ?_); go_simp) | go_simp); refine hK _ ?_; clear hK K)
  refine al rfl ?_
  refine aw rfl (fun K hK => ?_)
  go_simp
  refine wT.out.mono ?_
  rintro e5 w5 ⟨rfl, hk5⟩
  have uZ := Eh (vh.out.drew.kept hk5)
  clear hk5 wT wY vr vh q0 q1 qf
  obtain ⟨q0, q1, qf⟩ := aJ (uZ.out.blk 1 rfl)
  refine hK _ _ ?_
  clear hK K
  refine wpList_nil ?_
  refine And.intro ?_ ?_
  ·go_simp
  refine ar ?_
  go_upto_region 9 with fail
  obtain ⟨g2, og2, hg2, _, hr2, y0, hre, hfe⟩ := dQ (HH.out.rd uZ.out.drew) rfl Cd.out
  cases hg2
  have wY := Eh (az (w := w5.drew) hr2)
  have vr := Eh (az (w := w5.drew) (ak (uZ.out.drew.blk 2 rfl)))
  have Bf := Eh (s0 xG.out.1 HC.out (zZ.out _ (List.mem_of_getElem? z6.out)) wx.out uZ.out.drew)
  clear hr2 y0 hre hfe
  refine ag [(0, false, 7), (1, false, 7), (2, false, 7), (3, false, 7), (4, false, 7), (5, false, 7), (6, false, 7), (7, true, 0), (8, false, 9), (9, true, 0)] (by kernel_rfl) (by kernel_rfl) ?_
  iterate 7 (refine af rfl rfl (fun K hK => ?_); (first | ((refine aj _ _ rfl _ _ rfl _ wY.out ?_); go_simp) | ((refine aj _ _ rfl _ _ rfl _ vr.out ?_); go_simp) | go_simp); refine hK _ ?_; clear hK K)
  refine al rfl ?_
  refine aw rfl (fun K hK => ?_)
  go_simp
  refine Bf.out.mono ?_
  rintro e6 w6 ⟨z, D6, rfl, hzc, hle6, hok6, hs6⟩
  have yk := Eh hzc
  have vF := Eh hle6
  have Dh := Eh hok6
  have vi := Eh hs6
  clear hzc hle6 hok6 hs6 Bf wY vr uZ q0 q1 qf
  refine hK _ _ ?_
  clear hK K
  refine wpList_nil ?_
  refine And.intro ?_ ?_
  ·go_simp
  refine af rfl rfl (fun K hK => ?_); (first | ((refine aj _ _ rfl _ _ rfl _ wY.out ?_); go_simp) | ((refine aj _ _ rfl _ _ rfl _ vr.out ?_); go_simp) | go_simp); refine hK _ ?_; clear hK K
  refine al rfl ?_
  refine bm rfl _ _ _ rfl tRe bz 1 rfl z.cells rfl (ay (mkC o c true)) vi.out (by kernel_rfl) (by rw [bT, ClmE.len]; decide) (ClmE.one z) ?_
  intro w7 hs7
  rw [mq] at hs7
  have vn := Eh hs7
  clear hs7 vi
  refine wpList_nil ?_
  refine And.intro ?_ ?_
  ·go_simp
  refine ar ?_
  obtain ⟨q0, q1, qf⟩ := aJ (vn.out.blk 1 rfl)
  go_upto_region 11 with (go_at_call 147; refine (iT (wQ.out.mono vF.out) (by omega) vn.out).mono ?_; rintro e8 w8 ⟨av, D8, rfl, hle8, hA8, hs8⟩; have xM := Eh hle8; have CA := Eh hA8; have vu := Eh hs8; clear hle8 hA8 hs8 vn q0 q1 qf)
  have Ce := Eh (pt AW.out xJ.out)
  obtain ⟨at_, hat⟩ : ∃ n, cA Q.waits = n := ⟨_, rfl⟩
  have AX := Eh (show at_ ≤ ws.length by rw [← hat, Bl.out]; exact fX _)
  rw [hat] at Ce x9
  have xr := Eh Ce.out.1
  have CB := Eh Ce.out.2
  have xq := Eh (show dj RC Q o c.c = some (aE (mkC o z true), at_) by rw [x9.out, show aE (mkC o z true) = ⟨o, z.c, true⟩ from rfl, yk.out])
  have Am := Eh (show bV z.c by rw [yk.out]; exact pn xG.out.2 yg.out)
  have vz := Eh (vF.out.trans xM.out)
  have An := Eh (Dh.out.mono xM.out)
  have BK := Eh (HH.out.mono vz.out)
  have zL := Eh (wQ.out.mono vz.out)
  have yD := Eh (HQ.out.mono vz.out)
  clear hat Ce x9 vF xM Dh z6 Cd xG HO HK hkl hk0
  obtain ⟨q0, q1, qf⟩ := aJ (vu.out.blk 1 rfl)
  have vX := Eh (az (dZ (vu.out.blk 0 rfl)))
  have hme1 := eB o (BK.out.rd vu.out) (An.out.rd vu.out) Am.out
  have hme2 := fun (W : World) (hW : Sat B D8 W (blk bz (ay (mkC o z true)).toArray tRe :: blk b1 #[.slice (some ⟨g, og, none⟩) hs.length hcp, .slice wa ws.length wc] tRq :: blk b2 c.cells.toArray tCl :: blk b3 nQ tRq :: l)) => eB (w := W) o (CA.out.rd hW) (An.out.rd hW) Am.out
  rw [dY (bd RC o z.c) hs, xL.out] at hme1
  rw [dY (bd RC o z.c) (ws.filter (fun e => e.more)), xr.out] at hme2
  have xH := Eh (show bj RC Q o c.c (!only) = if d7 RC Q o z.c (Q.waits.take at_) then (cP RC Q (aE (mkC o z true)), true) else if (!only) then (⟨Q.held, Q.waits.take at_ ++ [aE (mkC o z true)] ++ Q.waits.drop at_⟩, false) else (Q, false) from kK (e := aE (mkC o z true)) AQ.out xq.out)
  have BL := Eh (show d7 RC Q o z.c (Q.waits.take at_) = (!(Q.held.any (bd RC o z.c)) && !((Q.waits.take at_).any (bd RC o z.c))) from rfl)
  rw [BL.out] at xH
  generalize Q.held.any (bd RC o z.c) = m1 at hme1 xH
  generalize (Q.waits.take at_).any (bd RC o z.c) = m2 at hme2 xH
  have xQ := Eh hme1
  have xx := Eh hme2
  clear hme1 hme2 BL xq AW
  by_cases hfree : m1 = false ∧ m2 = false
  ·obtain ⟨rfl, rfl⟩ := hfree
   have vy := Eh (show bj RC Q o c.c (!only) = (cP RC Q (aE (mkC o z true)), true) by rw [xH.out]; rfl)
   clear xH
   go_upto_region 12 with (first | (refine ai rfl _ _ rfl _ _ rfl _ vX.out ?_) | (refine bW rfl _ _ rfl _ _ rfl _ wJ.out ?_) | (go_at_call 148; first | (refine xQ.out.mono ?_; rintro e10 w10 ⟨rfl, hk10⟩; have vo := Eh (vu.out.kept hk10); have wJ := Eh (az (dZ (vo.out.blk 0 rfl))); clear hk10 xQ vu vX q0 q1 qf) | (refine (xx.out _ vo.out).mono ?_; rintro e11 w11 ⟨rfl, hk11⟩; have vl := Eh (vo.out.kept hk11); clear hk11 xx vo wJ)))
   have vG := Eh (bv (ak (vl.out.blk 1 rfl)))
   have vV := Eh (el (ak (vl.out.blk 0 rfl)))
   have xN := Eh (jU (mkC o z true) yD.out ⟨An.out, Am.out⟩ (by omega) vl.out)
   clear vl
   go_wp2_with (first | (refine ai rfl _ _ rfl _ _ rfl _ vG.out ?_) | (refine ai rfl _ _ rfl _ _ rfl _ vV.out ?_) | (go_at_call 149; refine xN.out.mono ?_; rintro e12 w12 ⟨v12, D12, rfl, hle12, hq12, hs12⟩; have AY := Eh hq12; obtain ⟨hv2, wv2, hs2, ws2, rfl, hH2, hW2, _, _⟩ := hq12; have xC := Eh (show ∀ u ∈ [hv2, wv2], u.oneCell' = true from fun u hu => by simp at hu; rcases hu with rfl | rfl; exact hH2.1.oneV; exact hW2.1.oneV); have yt := Eh hle12; have vY := Eh (hs12.front 3 rfl); clear hs12 hle12 hH2 hW2 xN vG vV) | (refine ap rfl _ _ _ rfl tRq b3 rfl [hv2, wv2] rfl nQ vY.out (by kernel_rfl) rfl xC.out ?_; intro w20 hs20; have vq := Eh hs20; clear hs20 vY))
   refine bodyPost_ret (aL rfl _ _ rfl (bv (ak (vq.out.blk 0 rfl)))) rfl ?_
   rw [vy.out]
   exact ⟨_, D12, rfl, (vz.out).trans yt.out, AY.out, vq.out.drop.drop.drop.drop⟩
  ·have vy := Eh (show bj RC Q o c.c (!only) = if (!only) then (⟨Q.held, Q.waits.take at_ ++ [aE (mkC o z true)] ++ Q.waits.drop at_⟩, false) else (Q, false) by rw [xH.out, if_neg (by cases m1 <;> cases m2 <;> simp_all)])
   clear xH
   have hcs : m1 = true ∨ (m1 = false ∧ m2 = true) := by cases m1 <;> cases m2 <;> simp_all
   clear hfree
   rcases hcs with rfl | ⟨rfl, rfl⟩
   focus
    go_upto_region 13 with (first | (refine ai rfl _ _ rfl _ _ rfl _ vX.out ?_) | (go_at_call 148; first | (refine xQ.out.mono ?_; rintro e10 w10 ⟨rfl, hk10⟩; have vo := Eh (vu.out.kept hk10); have wJ := Eh (az (dZ (vo.out.blk 0 rfl))); clear hk10 xQ vu vX q0 q1 qf) | (refine (xx.out _ vo.out).mono ?_; rintro e11 w11 ⟨rfl, hk11⟩; have vl := Eh (vo.out.kept hk11); clear hk11 xx vo wJ)))
    have vl := Eh vo.out
    clear vo wJ xx
   rotate_left
   focus
    go_upto_region 13 with (first | (refine ai rfl _ _ rfl _ _ rfl _ vX.out ?_) | (refine bW rfl _ _ rfl _ _ rfl _ wJ.out ?_) | (go_at_call 148; first | (refine xQ.out.mono ?_; rintro e10 w10 ⟨rfl, hk10⟩; have vo := Eh (vu.out.kept hk10); have wJ := Eh (az (dZ (vo.out.blk 0 rfl))); clear hk10 xQ vu vX q0 q1 qf) | (refine (xx.out _ vo.out).mono ?_; rintro e11 w11 ⟨rfl, hk11⟩; have vl := Eh (vo.out.kept hk11); clear hk11 xx vo wJ)))
   all_goals
    cases only
    ·replace vy := Eh (vy.out.trans (if_pos rfl))
     obtain ⟨q0, q1, qf⟩ := aJ (vl.out.blk 1 rfl)
     go_upto_region 17 with (go_at_call 147; refine (iT zL.out (by omega) vl.out).mono ?_; rintro e13 w13 ⟨v13, D13, rfl, hle13, hE13, hs13⟩; obtain ⟨ma, mc, rfl⟩ := hE13.1.shape; have wU := Eh hle13; have vM := Eh hs13; clear hs13 hle13 hE13 vl q0 q1 qf)
     obtain ⟨q0, q1, qf⟩ := aJ (vM.out.blk 1 rfl)
     have z17 := (ei (vM.out.blk 0 rfl)).2
     go_upto_region 19 with fail
     rw [CB.out]
     clear z17
     have hatb : at_ ≤ ws.length := AX.out
     have wV := Eh (zL.out.mono wU.out)
     have xk := Eh (vM.out.own_nil tRe 18)
     go_upto_region 20 with (first | (refine fj rfl _ _ rfl at_ rfl rfl wV.out rfl hatb ?_; intro v14 hv14; have yu := Eh (hv14.rd xk.out).1; clear hv14) | (at_builtin; refine au _ rfl _ _ ew rfl tRe i0 _ 18 200 Tryz.underlying56 HI.out.1 HI.out.2.1 HI.out.2.2.1 HI.out.2.2.2 rfl _ 0 _ rfl xk.out _ (ws.take at_).length _ rfl yu.out (dD _) (by unfold maxLen; simp only [List.length_take, List.length_drop]; omega) (by simp only [List.length_take, List.length_drop]; omega) ?_; intro v15 w15 hs15 h15; have vR := Eh hs15; clear hs15 h15 xk yu q0 q1 qf))
     have zM := Eh (el (ak (vR.out.blk 1 rfl)))
     have vS := Eh ((vR.out.alloc (ay (mkC o z true)).toArray tRe).front 1 rfl)
     have yv := Eh (aS (size := 18) (n := 1) (vS.out.blk 1 rfl) (by simp [bT]) (by unfold maxLen; omega))
     clear vR
     go_upto_region 21 with (first | (refine ai rfl _ _ rfl _ _ rfl _ zM.out ?_) | (refine aD rfl _ _ rfl tRe i0 _ (ay (mkC o z true)) rfl Tryz.underlying56 HI.out.1 HI.out.2.1 (HI.out.2.2.1.trans rfl) (by rw [bT]; decide) (by rw [bT]; decide) ?_) | (at_builtin; refine au _ rfl _ _ ew rfl tRe i0 _ 18 200 Tryz.underlying56 HI.out.1 HI.out.2.1 HI.out.2.2.1 HI.out.2.2.2 rfl _ (0 + (ws.take at_).length) _ rfl vS.out _ 1 _ rfl yv.out (by simpa using eE (mkC o z true)) (by unfold maxLen; simp only [List.length_take, List.length_drop]; omega) (by simp only [List.length_take, List.length_drop]; omega) ?_; intro v17 w17 hs17 h17; have vO := Eh hs17; clear hs17 h17 vS yv zM))
     obtain ⟨q0, q1, qf⟩ := aJ (vO.out.blk 3 rfl)
     go_upto_region 22 with (first | (refine gE rfl _ _ rfl at_ rfl rfl wV.out rfl hatb ?_; intro v18 hv18; have zN := Eh (hv18.rd vO.out).1; clear hv18) | (at_builtin; refine au _ rfl _ _ ew rfl tRe i0 _ 18 200 Tryz.underlying56 HI.out.1 HI.out.2.1 HI.out.2.2.1 HI.out.2.2.2 rfl _ (0 + (ws.take at_).length + 1) _ rfl vO.out _ (ws.drop at_).length _ rfl zN.out (dD _) (by unfold maxLen; simp only [List.length_take, List.length_drop]; omega) (by simp only [List.length_take, List.length_drop]; omega) ?_; intro v19 w19 hs19 h19; have wK := Eh hs19; clear hs19 vO zN q0 q1 qf))
     obtain ⟨q0, q1, qf⟩ := aJ (wK.out.blk 3 rfl)
     have xy := Eh (Sat.set2b (wK.out.front 3 rfl) v19)
     go_upto_region 23 with fail
     obtain ⟨W22, hW22, hs22⟩ := Sat.hide xy.out
     rw [← hW22]
     clear hW22 xy wK q0 q1 qf
     have zO := Eh (bv (ak (hs22.blk 0 rfl)))
     have yw := Eh (hs22.front 5 rfl)
     clear hs22
     have xC := Eh (show ∀ u ∈ [Value.slice (some ⟨g, og, none⟩) hs.length hcp, v19], u.oneCell' = true from fun u hu => by simp at hu; rcases hu with rfl | rfl; rfl; exact h19)
     go_wp2_with (first | (refine ai rfl _ _ rfl _ _ rfl _ zO.out ?_) | (refine ap rfl _ _ _ rfl tRq b3 rfl [.slice (some ⟨g, og, none⟩) hs.length hcp, v19] rfl nQ yw.out (by kernel_rfl) rfl xC.out ?_; intro w20 hs20; have vq := Eh hs20; clear hs20 yw zO))
     refine bodyPost_ret (aL rfl _ _ rfl (bv (ak (vq.out.blk 0 rfl)))) rfl ?_
     rw [vy.out]
     have hln : (ws.take at_ ++ [mkC o z true] ++ ws.drop at_).length = 0 + (ws.take at_).length + 1 + (ws.drop at_).length := by simp only [List.length_append, List.length_singleton]; omega
     obtain ⟨D', hle, hE, hs23⟩ := dk (zs := ws.take at_ ++ [mkC o z true] ++ ws.drop at_) (v := v19) (by show Sat B D13 _ (aI tRe 18 _ (ws.take at_ ++ [mkC o z true] ++ ws.drop at_).length _ :: _); rw [hln, List.flatMap_append, List.flatMap_append]; have h9 := vq.out.front 2 rfl; simpa using h9) (fun x hx => by
       rcases List.mem_append.1 hx with hx | hx
       ·rcases List.mem_append.1 hx with hx | hx
        ·exact wV.out.2 x (List.mem_of_mem_take hx)
        ·rw [List.mem_singleton.1 hx]; exact ⟨An.out.mono wU.out, Am.out⟩
       ·exact wV.out.2 x (List.mem_of_mem_drop hx))
     exact ⟨_, D', rfl, ((vz.out).trans wU.out).trans hle, ⟨_, _, hs, ws.take at_ ++ [mkC o z true] ++ ws.drop at_, rfl, (BK.out.mono wU.out).mono hle, hE, xL.out, by rw [List.map_append, List.map_append, List.map_take, List.map_drop, xJ.out]; rfl⟩, hs23.drop.drop.drop.drop.drop⟩
    ·replace vy := Eh (vy.out.trans (if_neg (by simp)))
     have zK := Eh (bv (ak (vl.out.blk 1 rfl)))
     have yF := Eh (vl.out.front 3 rfl)
     clear vl
     go_wp2_with (first | (refine ai rfl _ _ rfl _ _ rfl _ zK.out ?_) | (refine ap rfl _ _ _ rfl tRq b3 rfl [.slice (some ⟨g, og, none⟩) hs.length hcp, .slice wa ws.length wc] rfl nQ yF.out (by kernel_rfl) rfl wD.out ?_; intro w20 hs20; have vq := Eh hs20; clear hs20 yF zK))
     refine bodyPost_ret (aL rfl _ _ rfl (bv (ak (vq.out.blk 0 rfl)))) rfl ?_
     rw [vy.out]
     exact ⟨_, D8, rfl, vz.out, yD.out, vq.out.drop.drop.drop.drop⟩
 ·have hk0 : ¬ ((-1 : Int) ≥ 0) := by omega
  have HK := Eh (show cz (cH RC o c.c) Q.held = -1 from hk)
  have x9 := Eh (show dj RC Q o c.c = some (⟨o, c.c, false⟩, Q.waits.length) by unfold dj; rw [ho])
  clear ho hk
  go_enter Tryz.func102, Tryz.ntmps102
  go_upto_region 1 with fail
  rw [← uW.out]
  clear uW
  generalize w.heap.size + 1 + 1 = b3 at *
  generalize w.heap.size + 1 = b2 at *
  generalize w.heap.size = b1 at *
  go_upto_region 3 with (first | (refine ai rfl _ _ rfl _ _ rfl _ vU.out ?_) | (go_at_call 144; refine xg.out.mono ?_; rintro e1 w1 ⟨rfl, hs2⟩; have vg := Eh hs2; clear hs2 xg vU))
  have vU := Eh (bv (ak (vg.out.blk 0 rfl)))
  have vr := Eh (az (ak (vg.out.blk 1 rfl)))
  have hown := k5 (wv := .slice wa ws.length wc) o (HH.out.rd vg.out) (HC.out.rd vg.out)
  rw [fV (cH RC o c.c) hs, xL.out, HK.out] at hown
  have xb := Eh hown
  clear hown
  go_upto_region 4 with (first | (refine ai rfl _ _ rfl _ _ rfl _ vU.out ?_) | (refine ai rfl _ _ rfl _ _ rfl _ vr.out ?_) | (go_at_call 145; refine xb.out.mono ?_; rintro e3 w3 ⟨rfl, hk3⟩; have uY := Eh (vg.out.kept hk3); clear hk3 vg xb vU vr))
  have vr := Eh (az (ak (uY.out.blk 1 rfl)))
  have vh := Eh (uY.out.alloc (ay (mkC o c false)).toArray tRe)
  clear uY
  go_upto_region 5 with (first | (refine ai rfl _ _ rfl _ _ rfl _ vr.out ?_) | (refine fJ rfl _ _ _ rfl o c false rfl rfl rfl ?_) | (refine ax rfl _ _ _ rfl (ay (mkC o c false)) _ _ rfl rfl (by kernel_rfl) rfl (eE _) ?_))
  clear vr
  obtain ⟨W4, hW4, hs4⟩ := Sat.hide vh.out
  rw [← hW4]
  clear hW4 vh
  generalize w3.heap.size = bz at hs4 ⊢
  have vh := Eh (show Sat B D W4 (blk bz (ay (mkC o c false)).toArray tRe :: blk b1 #[.slice ha hs.length hcp, .slice wa ws.length wc] tRq :: blk b2 c.cells.toArray tCl :: blk b3 nQ tRq :: l) from hs4)
  clear hs4
  obtain ⟨q0, q1, qf⟩ := aJ (vh.out.blk 1 rfl)
  go_upto_region 11 with fail
  clear q0 q1 qf
  have vu := Eh vh.out
  clear vh
  have AX := Eh (show ws.length ≤ ws.length by omega)
  have xr := Eh (show ws.map aE = Q.waits.take ws.length by rw [xJ.out, List.take_of_length_le (by omega)])
  have xq := Eh (show dj RC Q o c.c = some (aE (mkC o c false), ws.length) by rw [x9.out, Bl.out])
  have Am := Eh yg.out
  have An := Eh HC.out
  have BK := Eh HH.out
  have zL := Eh wQ.out
  have CA := Eh wQ.out
  have yD := Eh HQ.out
  clear x9 HK hk0
  obtain ⟨q0, q1, qf⟩ := aJ (vu.out.blk 1 rfl)
  have vX := Eh (az (dZ (vu.out.blk 0 rfl)))
  have hme1 := eB o (BK.out.rd vu.out) (An.out.rd vu.out) Am.out
  have hme2 := fun (W : World) (hW : Sat B D W (blk bz (ay (mkC o c false)).toArray tRe :: blk b1 #[.slice ha hs.length hcp, .slice wa ws.length wc] tRq :: blk b2 c.cells.toArray tCl :: blk b3 nQ tRq :: l)) => eB (w := W) o (CA.out.rd hW) (An.out.rd hW) Am.out
  rw [dY (bd RC o c.c) hs, xL.out] at hme1
  rw [dY (bd RC o c.c) ws, xr.out] at hme2
  have xH := Eh (show bj RC Q o c.c (!only) = if d7 RC Q o c.c (Q.waits.take ws.length) then (cP RC Q (aE (mkC o c false)), true) else if (!only) then (⟨Q.held, Q.waits.take ws.length ++ [aE (mkC o c false)] ++ Q.waits.drop ws.length⟩, false) else (Q, false) from kK (e := aE (mkC o c false)) AQ.out xq.out)
  have BL := Eh (show d7 RC Q o c.c (Q.waits.take ws.length) = (!(Q.held.any (bd RC o c.c)) && !((Q.waits.take ws.length).any (bd RC o c.c))) from rfl)
  rw [BL.out] at xH
  generalize Q.held.any (bd RC o c.c) = m1 at hme1 xH
  generalize (Q.waits.take ws.length).any (bd RC o c.c) = m2 at hme2 xH
  have xQ := Eh hme1
  have xx := Eh hme2
  clear hme1 hme2 BL xq AW
  by_cases hfree : m1 = false ∧ m2 = false
  ·obtain ⟨rfl, rfl⟩ := hfree
   have vy := Eh (show bj RC Q o c.c (!only) = (cP RC Q (aE (mkC o c false)), true) by rw [xH.out]; rfl)
   clear xH
   go_upto_region 12 with (first | (refine ai rfl _ _ rfl _ _ rfl _ vX.out ?_) | (refine bW rfl _ _ rfl _ _ rfl _ wJ.out ?_) | (go_at_call 148; first | (refine xQ.out.mono ?_; rintro e10 w10 ⟨rfl, hk10⟩; have vo := Eh (vu.out.kept hk10); have wJ := Eh (az (dZ (vo.out.blk 0 rfl))); clear hk10 xQ vu vX q0 q1 qf) | (refine (xx.out _ vo.out).mono ?_; rintro e11 w11 ⟨rfl, hk11⟩; have vl := Eh (vo.out.kept hk11); clear hk11 xx vo wJ)))
   have vG := Eh (bv (ak (vl.out.blk 1 rfl)))
   have vV := Eh (el (ak (vl.out.blk 0 rfl)))
   have xN := Eh (jU (mkC o c false) yD.out ⟨An.out, Am.out⟩ (by omega) vl.out)
   clear vl
   go_wp2_with (first | (refine ai rfl _ _ rfl _ _ rfl _ vG.out ?_) | (refine ai rfl _ _ rfl _ _ rfl _ vV.out ?_) | (go_at_call 149; refine xN.out.mono ?_; rintro e12 w12 ⟨v12, D12, rfl, hle12, hq12, hs12⟩; have AY := Eh hq12; obtain ⟨hv2, wv2, hs2, ws2, rfl, hH2, hW2, _, _⟩ := hq12; have xC := Eh (show ∀ u ∈ [hv2, wv2], u.oneCell' = true from fun u hu => by simp at hu; rcases hu with rfl | rfl; exact hH2.1.oneV; exact hW2.1.oneV); have yt := Eh hle12; have vY := Eh (hs12.front 3 rfl); clear hs12 hle12 hH2 hW2 xN vG vV) | (refine ap rfl _ _ _ rfl tRq b3 rfl [hv2, wv2] rfl nQ vY.out (by kernel_rfl) rfl xC.out ?_; intro w20 hs20; have vq := Eh hs20; clear hs20 vY))
   refine bodyPost_ret (aL rfl _ _ rfl (bv (ak (vq.out.blk 0 rfl)))) rfl ?_
   rw [vy.out]
   exact ⟨_, D12, rfl, (PH.le.refl _).trans yt.out, AY.out, vq.out.drop.drop.drop.drop⟩
  ·have vy := Eh (show bj RC Q o c.c (!only) = if (!only) then (⟨Q.held, Q.waits.take ws.length ++ [aE (mkC o c false)] ++ Q.waits.drop ws.length⟩, false) else (Q, false) by rw [xH.out, if_neg (by cases m1 <;> cases m2 <;> simp_all)])
   clear xH
   have hcs : m1 = true ∨ (m1 = false ∧ m2 = true) := by cases m1 <;> cases m2 <;> simp_all
   clear hfree
   rcases hcs with rfl | ⟨rfl, rfl⟩
   focus
    go_upto_region 13 with (first | (refine ai rfl _ _ rfl _ _ rfl _ vX.out ?_) | (go_at_call 148; first | (refine xQ.out.mono ?_; rintro e10 w10 ⟨rfl, hk10⟩; have vo := Eh (vu.out.kept hk10); have wJ := Eh (az (dZ (vo.out.blk 0 rfl))); clear hk10 xQ vu vX q0 q1 qf) | (refine (xx.out _ vo.out).mono ?_; rintro e11 w11 ⟨rfl, hk11⟩; have vl := Eh (vo.out.kept hk11); clear hk11 xx vo wJ)))
    have vl := Eh vo.out
    clear vo wJ xx
   rotate_left
   focus
    go_upto_region 13 with (first | (refine ai rfl _ _ rfl _ _ rfl _ vX.out ?_) | (refine bW rfl _ _ rfl _ _ rfl _ wJ.out ?_) | (go_at_call 148; first | (refine xQ.out.mono ?_; rintro e10 w10 ⟨rfl, hk10⟩; have vo := Eh (vu.out.kept hk10); have wJ := Eh (az (dZ (vo.out.blk 0 rfl))); clear hk10 xQ vu vX q0 q1 qf) | (refine (xx.out _ vo.out).mono ?_; rintro e11 w11 ⟨rfl, hk11⟩; have vl := Eh (vo.out.kept hk11); clear hk11 xx vo wJ)))
   all_goals
    cases only
    ·replace vy := Eh (vy.out.trans (if_pos rfl))
     obtain ⟨q0, q1, qf⟩ := aJ (vl.out.blk 1 rfl)
     go_upto_region 17 with (go_at_call 147; refine (iT zL.out (by omega) vl.out).mono ?_; rintro e13 w13 ⟨v13, D13, rfl, hle13, hE13, hs13⟩; obtain ⟨ma, mc, rfl⟩ := hE13.1.shape; have wU := Eh hle13; have vM := Eh hs13; clear hs13 hle13 hE13 vl q0 q1 qf)
     obtain ⟨q0, q1, qf⟩ := aJ (vM.out.blk 1 rfl)
     have z17 := (ei (vM.out.blk 0 rfl)).2
     go_upto_region 19 with fail
     skip
     clear z17
     have hatb : ws.length ≤ ws.length := AX.out
     have wV := Eh (zL.out.mono wU.out)
     have xk := Eh (vM.out.own_nil tRe 18)
     go_upto_region 20 with (first | (refine fj rfl _ _ rfl ws.length rfl rfl wV.out rfl hatb ?_; intro v14 hv14; have yu := Eh (hv14.rd xk.out).1; clear hv14) | (at_builtin; refine au _ rfl _ _ ew rfl tRe i0 _ 18 200 Tryz.underlying56 HI.out.1 HI.out.2.1 HI.out.2.2.1 HI.out.2.2.2 rfl _ 0 _ rfl xk.out _ (ws.take ws.length).length _ rfl yu.out (dD _) (by unfold maxLen; simp only [List.length_take, List.length_drop]; omega) (by simp only [List.length_take, List.length_drop]; omega) ?_; intro v15 w15 hs15 h15; have vR := Eh hs15; clear hs15 h15 xk yu q0 q1 qf))
     have zM := Eh (el (ak (vR.out.blk 1 rfl)))
     have vS := Eh ((vR.out.alloc (ay (mkC o c false)).toArray tRe).front 1 rfl)
     have yv := Eh (aS (size := 18) (n := 1) (vS.out.blk 1 rfl) (by simp [bT]) (by unfold maxLen; omega))
     clear vR
     go_upto_region 21 with (first | (refine ai rfl _ _ rfl _ _ rfl _ zM.out ?_) | (refine aD rfl _ _ rfl tRe i0 _ (ay (mkC o c false)) rfl Tryz.underlying56 HI.out.1 HI.out.2.1 (HI.out.2.2.1.trans rfl) (by rw [bT]; decide) (by rw [bT]; decide) ?_) | (at_builtin; refine au _ rfl _ _ ew rfl tRe i0 _ 18 200 Tryz.underlying56 HI.out.1 HI.out.2.1 HI.out.2.2.1 HI.out.2.2.2 rfl _ (0 + (ws.take ws.length).length) _ rfl vS.out _ 1 _ rfl yv.out (by simpa using eE (mkC o c false)) (by unfold maxLen; simp only [List.length_take, List.length_drop]; omega) (by simp only [List.length_take, List.length_drop]; omega) ?_; intro v17 w17 hs17 h17; have vO := Eh hs17; clear hs17 h17 vS yv zM))
     obtain ⟨q0, q1, qf⟩ := aJ (vO.out.blk 3 rfl)
     go_upto_region 22 with (first | (refine gE rfl _ _ rfl ws.length rfl rfl wV.out rfl hatb ?_; intro v18 hv18; have zN := Eh (hv18.rd vO.out).1; clear hv18) | (at_builtin; refine au _ rfl _ _ ew rfl tRe i0 _ 18 200 Tryz.underlying56 HI.out.1 HI.out.2.1 HI.out.2.2.1 HI.out.2.2.2 rfl _ (0 + (ws.take ws.length).length + 1) _ rfl vO.out _ (ws.drop ws.length).length _ rfl zN.out (dD _) (by unfold maxLen; simp only [List.length_take, List.length_drop]; omega) (by simp only [List.length_take, List.length_drop]; omega) ?_; intro v19 w19 hs19 h19; have wK := Eh hs19; clear hs19 vO zN q0 q1 qf))
     obtain ⟨q0, q1, qf⟩ := aJ (wK.out.blk 3 rfl)
     have xy := Eh (Sat.set2b (wK.out.front 3 rfl) v19)
     go_upto_region 23 with fail
     obtain ⟨W22, hW22, hs22⟩ := Sat.hide xy.out
     rw [← hW22]
     clear hW22 xy wK q0 q1 qf
     have zO := Eh (bv (ak (hs22.blk 0 rfl)))
     have yw := Eh (hs22.front 5 rfl)
     clear hs22
     have xC := Eh (show ∀ u ∈ [Value.slice ha hs.length hcp, v19], u.oneCell' = true from fun u hu => by simp at hu; rcases hu with rfl | rfl; rfl; exact h19)
     go_wp2_with (first | (refine ai rfl _ _ rfl _ _ rfl _ zO.out ?_) | (refine ap rfl _ _ _ rfl tRq b3 rfl [.slice ha hs.length hcp, v19] rfl nQ yw.out (by kernel_rfl) rfl xC.out ?_; intro w20 hs20; have vq := Eh hs20; clear hs20 yw zO))
     refine bodyPost_ret (aL rfl _ _ rfl (bv (ak (vq.out.blk 0 rfl)))) rfl ?_
     rw [vy.out]
     have hln : (ws.take ws.length ++ [mkC o c false] ++ ws.drop ws.length).length = 0 + (ws.take ws.length).length + 1 + (ws.drop ws.length).length := by simp only [List.length_append, List.length_singleton]; omega
     obtain ⟨D', hle, hE, hs23⟩ := dk (zs := ws.take ws.length ++ [mkC o c false] ++ ws.drop ws.length) (v := v19) (by show Sat B D13 _ (aI tRe 18 _ (ws.take ws.length ++ [mkC o c false] ++ ws.drop ws.length).length _ :: _); rw [hln, List.flatMap_append, List.flatMap_append]; have h9 := vq.out.front 2 rfl; simpa using h9) (fun x hx => by
       rcases List.mem_append.1 hx with hx | hx
       ·rcases List.mem_append.1 hx with hx | hx
        ·exact wV.out.2 x (List.mem_of_mem_take hx)
        ·rw [List.mem_singleton.1 hx]; exact ⟨An.out.mono wU.out, Am.out⟩
       ·exact wV.out.2 x (List.mem_of_mem_drop hx))
     exact ⟨_, D', rfl, ((PH.le.refl _).trans wU.out).trans hle, ⟨_, _, hs, ws.take ws.length ++ [mkC o c false] ++ ws.drop ws.length, rfl, (BK.out.mono wU.out).mono hle, hE, xL.out, by rw [List.map_append, List.map_append, List.map_take, List.map_drop, xJ.out]; rfl⟩, hs23.drop.drop.drop.drop.drop⟩
    ·replace vy := Eh (vy.out.trans (if_neg (by simp)))
     have zK := Eh (bv (ak (vl.out.blk 1 rfl)))
     have yF := Eh (vl.out.front 3 rfl)
     clear vl
     go_wp2_with (first | (refine ai rfl _ _ rfl _ _ rfl _ zK.out ?_) | (refine ap rfl _ _ _ rfl tRq b3 rfl [.slice ha hs.length hcp, .slice wa ws.length wc] rfl nQ yF.out (by kernel_rfl) rfl wD.out ?_; intro w20 hs20; have vq := Eh hs20; clear hs20 yF zK))
     refine bodyPost_ret (aL rfl _ _ rfl (bv (ak (vq.out.blk 0 rfl)))) rfl ?_
     rw [vy.out]
     exact ⟨_, D, rfl, PH.le.refl _, yD.out, vq.out.drop.drop.drop.drop⟩
end Go.Proofs.YtgljdkjepdknnaaGreatDoor
