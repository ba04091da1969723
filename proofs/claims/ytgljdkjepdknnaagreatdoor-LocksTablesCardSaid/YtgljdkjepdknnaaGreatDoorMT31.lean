/- The document's queue: asking (ratlineref10.Queue.Ask). (printed by genrqask.py) -/
import Derived.Test.YtgljdkjepdknnaaGreatDoorMT30
import Derived.Test.YtgljdkjepdknnaaGreatDoorMT21
set_option maxHeartbeats 64000000
namespace Go.Proofs.YtgljdkjepdknnaaGreatDoor
open Go.ChangeShapes Go.WideShapes Go.ChangeAt Go.RowKit
set_option maxRecDepth 100000
set_option linter.unusedSimpArgs false
theorem jJ (w : World) (n : Int) (x : ClmE) (m : Bool) : (Instr.build tRe #[(0, .int .i64 n), (1, .agg x.cells.toArray), (2, .bool m)]).run Tryz.prog w = .ok (.agg (au (mkC n x m)).toArray) w := run_build w _ _ _ (by kernel_rfl)
theorem fa {w : World} {o : Oper} {a : Act} {ops : Array Oper} {rest : List Oper} {Q : Exit → Act → World → Prop} (hgd : o.guard = none) (xo xc xm : Operand) (ho : o.op = .build tRe #[(0, xo), (1, xc), (2, xm)]) (n : Int) (x : ClmE) (m : Bool) (h1 : a.eval xo = .int .i64 n) (h2 : a.eval xc = .agg x.cells.toArray) (h3 : a.eval xm = .bool m)
  (h : wpList Tryz.prog ops Q rest (a.put o.dst (.agg (au (mkC n x m)).toArray)) w) : wpList Tryz.prog ops Q (o :: rest) a w :=
 wpList_plain hgd fun _ hK => by
  have hrun := jJ w n x m
  unfold Oper.wp execOp
  simp only [ho, List.map_toArray, List.map_cons, List.map_nil, h1, h2, h3, Sem.run_bind, Sem.run_pure, Result.andThen_ok, hrun]
  exact hK _ _ h
def AskGot (B : World) (D : PH) (l : List HP) (R : Qm Clm × Bool) (r : Ending) (w' : World) : Prop := ∃ (v : Value) (D' : PH), r = .returned (.tuple #[v, .bool R.2]) ∧ PH.le D D' ∧ QueD D' v R.1 ∧ Sat B D' w' l
theorem mG {ws : List EntE} {Q : Qm Clm} (hok : QOk Q) (h : ws.map aG = Q.waits) : (ws.filter (fun e => e.more)).map aG = Q.waits.take (ce Q.waits) ∧ (ws.filter (fun e => e.more)).length = ce Q.waits := by
 have e : (ws.filter (fun e => e.more)).map aG = Q.waits.take (ce Q.waits) := by
  rw [je, qN hok.mores, ← h, List.filter_map]
  rfl
 refine ⟨e, ?_⟩
 have := congrArg List.length e
 rw [List.length_map, List.length_take] at this
 have := fG Q.waits
 omega
theorem kq {B w : World} {D : PH} {l : List HP} {v : Value} {Q : Qm Clm} (o : Int) (c : ClmE) (only : Bool) (hok : QOk Q) (hq : QueD D v Q) (hc : ClOk D c) (hfit : bS c.c) (hsm : ClmSm 1000000 c.c) (hqs : ∀ e ∈ Q.held, ClmSm 1000000 e.c) (hh : Q.held.length ≤ 1000) (hw : Q.waits.length ≤ 1000) (s : Sat B D w l) :
  Calls Tryz.prog 102 #[v, .int .i64 o, .agg c.cells.toArray, .bool only] w (AskGot B D l (aV RC Q o c.c (!only))) := by
 obtain ⟨i0, hi, hz0, hz1, hz2⟩ := info_parts gA
 have HI := BO (And.intro hi (And.intro hz0 (And.intro hz1 hz2)))
 have HQ := BO hq
 obtain ⟨hv, wv, hs, ws, rfl, hH, hW, hhq, hwq⟩ := hq
 obtain ⟨ha, hcp, rfl⟩ := hH.1.shape
 obtain ⟨wa, wc, rfl⟩ := hW.1.shape
 have hhl : hs.length ≤ Q.held.length ∧ Q.held.length ≤ hs.length := by have := congrArg List.length hhq; rw [List.length_map] at this; omega
 have Ao := BO (show ws.length = Q.waits.length by rw [← hwq, List.length_map])
 have hwl : ws.length ≤ Q.waits.length ∧ Q.waits.length ≤ ws.length := by have := Ao.out; omega
 have hhl2 : hs.length ≤ 1000 := by omega
 have hwl2 : ws.length ≤ 1000 := by omega
 obtain ⟨W1, hW1, hs1⟩ := dJ s #[.slice ha hs.length hcp, .slice wa ws.length wc] c.cells.toArray nQ tRq tCl tRq
 have uJ := BO (nV o HQ.out hs1)
 have tL := BO (bi (ai (hs1.blk 0 rfl)))
 have uh := BO (show ∀ u ∈ [Value.slice ha hs.length hcp, .slice wa ws.length wc], u.oneCell' = true from fun u hu => by simp at hu; rcases hu with rfl | rfl <;> rfl)
 have sR := BO hW1
 have yD := BO hok
 have HH := BO hH
 have uN := BO hW
 have vp := BO hhq
 have vv := BO hwq
 have HC := BO hc
 have xj := BO hfit
 have t8 := BO hsm
 have xF := BO hqs
 clear s hs1 hW1 hi hz0 hz1 hz2 hH hW hhq hwq hc hfit hsm hqs hok
 cases hwt : (aS Q o).2
 rotate_left
 ·have tk := BO (show aV RC Q o c.c (!only) = (Q, false) by unfold aV; rw [if_pos (by rw [← fL]; exact hwt)])
  rw [hwt] at uJ
  clear hwt
  go_enter Tryz.func102, Tryz.ntmps102
  go_upto_region 1 with fail
  rw [← sR.out]
  clear sR
  generalize w.heap.size + 1 + 1 = b3 at *
  generalize w.heap.size + 1 = b2 at *
  generalize w.heap.size = b1 at *
  go_upto_region 2 with (first | (refine ag rfl _ _ rfl _ _ rfl _ tL.out ?_) | (go_at_call 144; refine uJ.out.mono ?_; rintro e1 w1 ⟨rfl, hs2⟩; have xk := BO (bi (ai (hs2.blk 0 rfl))); have vZ := BO (hs2.front 2 rfl); clear hs2 uJ tL))
  go_wp2_with (first | (refine ag rfl _ _ rfl _ _ rfl _ xk.out ?_) | (refine aq rfl _ _ _ rfl tRq b3 rfl [.slice ha hs.length hcp, .slice wa ws.length wc] rfl nQ vZ.out (by kernel_rfl) rfl uh.out ?_; intro w20 hs20; have te := BO hs20; clear hs20 vZ xk))
  refine bodyPost_ret (aL rfl _ _ rfl (bi (ai (te.out.blk 0 rfl)))) rfl ?_
  rw [tk.out]
  exact ⟨_, D, rfl, PH.le.refl _, HQ.out, te.out.drop.drop.drop⟩
 rw [hwt] at uJ
 have yv := BO (show (b8 Q.waits o).isSome = false by rw [← fL]; exact hwt)
 clear hwt
 rcases gL (R := RC) Q.held o c.c with ⟨k, ho, hk, hlt⟩ | ⟨ho, hk⟩
 ·obtain ⟨e0, he0⟩ : ∃ e, hs[k]? = some e := ⟨hs[k]'(by omega), List.getElem?_eq_getElem _⟩
  have xG := BO (show Q.held[k]? = some (aG e0) by rw [← vp.out, List.getElem?_map, he0]; rfl)
  have zT := BO he0
  have hkl : (k : Int) < (hs.length : Int) := by omega
  have hk0 : (k : Int) ≥ 0 := by omega
  have HK := BO (show cl (cw RC o c.c) Q.held = (k : Int) from hk)
  have HO := BO ho
  clear ho hk he0
  go_enter Tryz.func102, Tryz.ntmps102
  go_upto_region 1 with fail
  rw [← sR.out]
  clear sR
  generalize w.heap.size + 1 + 1 = b3 at *
  generalize w.heap.size + 1 = b2 at *
  generalize w.heap.size = b1 at *
  go_upto_region 3 with (first | (refine ag rfl _ _ rfl _ _ rfl _ tL.out ?_) | (go_at_call 144; refine uJ.out.mono ?_; rintro e1 w1 ⟨rfl, hs2⟩; have sX := BO hs2; clear hs2 uJ tL))
  have tL := BO (bi (ai (sX.out.blk 0 rfl)))
  have tg := BO (ay (ai (sX.out.blk 1 rfl)))
  have hown := jY (wv := .slice wa ws.length wc) o (HH.out.rd sX.out) (HC.out.rd sX.out)
  rw [fB (cw RC o c.c) hs, vp.out, HK.out] at hown
  have uG := BO hown
  clear hown
  go_upto_region 4 with (first | (refine ag rfl _ _ rfl _ _ rfl _ tL.out ?_) | (refine ag rfl _ _ rfl _ _ rfl _ tg.out ?_) | (go_at_call 145; refine uG.out.mono ?_; rintro e3 w3 ⟨rfl, hk3⟩; have sU := BO (sX.out.kept hk3); clear hk3 sX uG tL tg))
  have tg := BO (ay (ai (sU.out.blk 1 rfl)))
  have sY := BO (sU.out.alloc (au (mkC o c true)).toArray tRe)
  clear sU
  go_upto_region 5 with (first | (refine ag rfl _ _ rfl _ _ rfl _ tg.out ?_) | (refine fa rfl _ _ _ rfl o c true rfl rfl rfl ?_) | (refine ax rfl _ _ _ rfl (au (mkC o c true)) _ _ rfl rfl (by kernel_rfl) rfl (eA _) ?_))
  clear tg
  obtain ⟨W4, hW4, hs4⟩ := Sat.hide sY.out
  rw [← hW4]
  clear hW4 sY
  generalize w3.heap.size = bz at hs4 ⊢
  have sY := BO (show Sat B D W4 (blk bz (au (mkC o c true)).toArray tRe :: blk b1 #[.slice ha hs.length hcp, .slice wa ws.length wc] tRq :: blk b2 c.cells.toArray tCl :: blk b3 nQ tRq :: l) from hs4)
  clear hs4
  obtain ⟨q0, q1, qf⟩ := aH (sY.out.blk 1 rfl)
  go_upto_region 7 with fail
  obtain ⟨g, og, hg, _, hr2, y0, hre, hfe⟩ := eu (HH.out.rd sY.out) rfl zT.out
  subst hg
  have uW := BO (HH.out.2 e0 (List.mem_of_getElem? zT.out))
  have uC := BO (ay (w := W4.drew) hr2)
  have tg := BO (ay (w := W4.drew) (ai (sY.out.drew.blk 2 rfl)))
  have uy := BO (pB (w := W4.drew) (uW.out.1.rd sY.out.drew) (HC.out.rd sY.out.drew))
  clear hr2 y0 hre hfe
  cases hcv : RC.cov e0.x.c c.c
  rotate_left
  ·rw [hcv] at uy
   have tk := BO (show aV RC Q o c.c (!only) = (Q, true) by unfold aV; rw [if_neg (by rw [yv.out]; simp)]; unfold cL; rw [HO.out]; dsimp only; rw [xG.out]; dsimp only; rw [if_pos hcv])
   clear hcv
   refine af [(0, false, 7), (1, false, 7), (2, false, 7), (3, false, 7), (4, false, 7), (5, false, 7), (6, false, 7), (7, true, 0)] (by kernel_rfl) (by kernel_rfl) ?_
   iterate 7 (refine ae rfl rfl (fun K hK => ?_); (first | ((refine aj _ _ rfl _ _ rfl _ uC.out ?_); go_simp) | ((refine aj _ _ rfl _ _ rfl _ tg.out ?_); go_simp) | go_simp); refine hK _ ?_; clear hK K)
   refine al rfl ?_
   refine aw rfl (fun K hK => ?_)
   go_simp
   refine uy.out.mono ?_
   rintro e5 w5 ⟨rfl, hk5⟩
   have sV := BO (sY.out.drew.kept hk5)
   clear hk5 uy uC tg sY q0 q1 qf
   have xk := BO (bi (ai (sV.out.blk 1 rfl)))
   refine hK _ _ ?_
   clear hK K
   refine wpList_nil ?_
   refine And.intro ?_ ?_
   ·go_simp
   refine ap ?_
   have vZ := BO (sV.out.front 3 rfl)
   clear sV
   go_wp2_with (first | (refine ag rfl _ _ rfl _ _ rfl _ xk.out ?_) | (refine aq rfl _ _ _ rfl tRq b3 rfl [.slice (some ⟨g, og, none⟩) hs.length hcp, .slice wa ws.length wc] rfl nQ vZ.out (by kernel_rfl) rfl uh.out ?_; intro w20 hs20; have te := BO hs20; clear hs20 vZ xk))
   refine bodyPost_ret (aL rfl _ _ rfl (bi (ai (te.out.blk 0 rfl)))) rfl ?_
   rw [tk.out]
   exact ⟨_, D, rfl, PH.le.refl _, HQ.out, te.out.drop.drop.drop.drop⟩
  rw [hcv] at uy
  have vw := BO (show cL RC Q o c.c = some (⟨o, RC.join e0.x.c c.c, true⟩, ce Q.waits) by unfold cL; rw [HO.out]; dsimp only; rw [xG.out]; dsimp only; rw [if_neg (by rw [hcv]; simp)])
  clear hcv
  refine af [(0, false, 7), (1, false, 7), (2, false, 7), (3, false, 7), (4, false, 7), (5, false, 7), (6, false, 7), (7, true, 0)] (by kernel_rfl) (by kernel_rfl) ?_
  iterate 7 (refine ae rfl rfl (fun K hK => ?_); (first | ((refine aj _ _ rfl _ _ rfl _ uC.out ?_); go_simp) | ((refine aj _ _ rfl _ _ rfl _ tg.out ?_); go_simp) | go_simp); refine hK _ ?_; clear hK K)
  refine al rfl ?_
  refine aw rfl (fun K hK => ?_)
  go_simp
  refine uy.out.mono ?_
  rintro e5 w5 ⟨rfl, hk5⟩
  have sV := BO (sY.out.drew.kept hk5)
  clear hk5 uy uC tg sY q0 q1 qf
  obtain ⟨q0, q1, qf⟩ := aH (sV.out.blk 1 rfl)
  refine hK _ _ ?_
  clear hK K
  refine wpList_nil ?_
  refine And.intro ?_ ?_
  ·go_simp
  refine ap ?_
  go_upto_region 9 with fail
  obtain ⟨g2, og2, hg2, _, hr2, y0, hre, hfe⟩ := eu (HH.out.rd sV.out.drew) rfl zT.out
  cases hg2
  have uC := BO (ay (w := w5.drew) hr2)
  have tg := BO (ay (w := w5.drew) (ai (sV.out.drew.blk 2 rfl)))
  have yQ := BO (qz uW.out.1 HC.out (xF.out _ (List.mem_of_getElem? xG.out)) t8.out sV.out.drew)
  clear hr2 y0 hre hfe
  refine af [(0, false, 7), (1, false, 7), (2, false, 7), (3, false, 7), (4, false, 7), (5, false, 7), (6, false, 7), (7, true, 0), (8, false, 9), (9, true, 0)] (by kernel_rfl) (by kernel_rfl) ?_
  iterate 7 (refine ae rfl rfl (fun K hK => ?_); (first | ((refine aj _ _ rfl _ _ rfl _ uC.out ?_); go_simp) | ((refine aj _ _ rfl _ _ rfl _ tg.out ?_); go_simp) | go_simp); refine hK _ ?_; clear hK K)
  refine al rfl ?_
  refine aw rfl (fun K hK => ?_)
  go_simp
  refine yQ.out.mono ?_
  rintro e6 w6 ⟨z, D6, rfl, hzc, hle6, hok6, hs6⟩
  have vU := BO hzc
  have tw := BO hle6
  have A5 := BO hok6
  have s0 := BO hs6
  clear hzc hle6 hok6 hs6 yQ uC tg sV q0 q1 qf
  refine hK _ _ ?_
  clear hK K
  refine wpList_nil ?_
  refine And.intro ?_ ?_
  ·go_simp
  refine ae rfl rfl (fun K hK => ?_); (first | ((refine aj _ _ rfl _ _ rfl _ uC.out ?_); go_simp) | ((refine aj _ _ rfl _ _ rfl _ tg.out ?_); go_simp) | go_simp); refine hK _ ?_; clear hK K
  refine al rfl ?_
  refine bd rfl _ _ _ rfl tRe bz 1 rfl z.cells rfl (au (mkC o c true)) s0.out (by kernel_rfl) (by rw [bM, ClmE.len]; decide) (ClmE.one z) ?_
  intro w7 hs7
  rw [lu] at hs7
  have td := BO hs7
  clear hs7 s0
  refine wpList_nil ?_
  refine And.intro ?_ ?_
  ·go_simp
  refine ap ?_
  obtain ⟨q0, q1, qf⟩ := aH (td.out.blk 1 rfl)
  go_upto_region 11 with (go_at_call 147; refine (g6 (uN.out.mono tw.out) (by omega) td.out).mono ?_; rintro e8 w8 ⟨av, D8, rfl, hle8, hA8, hs8⟩; have vJ := BO hle8; have Ap := BO hA8; have ti := BO hs8; clear hle8 hA8 hs8 td q0 q1 qf)
  have zU := BO (mG yD.out vv.out)
  obtain ⟨at_, hat⟩ : ∃ n, ce Q.waits = n := ⟨_, rfl⟩
  have yE := BO (show at_ ≤ ws.length by rw [← hat, Ao.out]; exact fG _)
  rw [hat] at zU vw
  have uR := BO zU.out.1
  have Aq := BO zU.out.2
  have uQ := BO (show cL RC Q o c.c = some (aG (mkC o z true), at_) by rw [vw.out, show aG (mkC o z true) = ⟨o, z.c, true⟩ from rfl, vU.out])
  have xS := BO (show bS z.c by rw [vU.out]; exact mT uW.out.2 xj.out)
  have tt := BO (tw.out.trans vJ.out)
  have xT := BO (A5.out.mono vJ.out)
  have zv := BO (HH.out.mono tt.out)
  have xn := BO (uN.out.mono tt.out)
  have vX := BO (HQ.out.mono tt.out)
  clear hat zU vw tw vJ A5 xG zT uW HO HK hkl hk0
  obtain ⟨q0, q1, qf⟩ := aH (ti.out.blk 1 rfl)
  have tG := BO (ay (dR (ti.out.blk 0 rfl)))
  have hme1 := eh o (zv.out.rd ti.out) (xT.out.rd ti.out) xS.out
  have hme2 := fun (W : World) (hW : Sat B D8 W (blk bz (au (mkC o z true)).toArray tRe :: blk b1 #[.slice (some ⟨g, og, none⟩) hs.length hcp, .slice wa ws.length wc] tRq :: blk b2 c.cells.toArray tCl :: blk b3 nQ tRq :: l)) => eh (w := W) o (Ap.out.rd hW) (xT.out.rd hW) xS.out
  rw [dL (bC RC o z.c) hs, vp.out] at hme1
  rw [dL (bC RC o z.c) (ws.filter (fun e => e.more)), uR.out] at hme2
  have uX := BO (show aV RC Q o c.c (!only) = if dB RC Q o z.c (Q.waits.take at_) then (ci RC Q (aG (mkC o z true)), true) else if (!only) then (⟨Q.held, Q.waits.take at_ ++ [aG (mkC o z true)] ++ Q.waits.drop at_⟩, false) else (Q, false) from jB (e := aG (mkC o z true)) yv.out uQ.out)
  have zw := BO (show dB RC Q o z.c (Q.waits.take at_) = (!(Q.held.any (bC RC o z.c)) && !((Q.waits.take at_).any (bC RC o z.c))) from rfl)
  rw [zw.out] at uX
  generalize Q.held.any (bC RC o z.c) = m1 at hme1 uX
  generalize (Q.waits.take at_).any (bC RC o z.c) = m2 at hme2 uX
  have vl := BO hme1
  have uZ := BO hme2
  clear hme1 hme2 zw uQ yD
  by_cases hfree : m1 = false ∧ m2 = false
  ·obtain ⟨rfl, rfl⟩ := hfree
   have tk := BO (show aV RC Q o c.c (!only) = (ci RC Q (aG (mkC o z true)), true) by rw [uX.out]; rfl)
   clear uX
   go_upto_region 12 with (first | (refine ag rfl _ _ rfl _ _ rfl _ tG.out ?_) | (refine bG rfl _ _ rfl _ _ rfl _ uo.out ?_) | (go_at_call 148; first | (refine vl.out.mono ?_; rintro e10 w10 ⟨rfl, hk10⟩; have s9 := BO (ti.out.kept hk10); have uo := BO (ay (dR (s9.out.blk 0 rfl))); clear hk10 vl ti tG q0 q1 qf) | (refine (uZ.out _ s9.out).mono ?_; rintro e11 w11 ⟨rfl, hk11⟩; have s6 := BO (s9.out.kept hk11); clear hk11 uZ s9 uo)))
   have tA := BO (bi (ai (s6.out.blk 1 rfl)))
   have tU := BO (dW (ai (s6.out.blk 0 rfl)))
   have ve := BO (iP (mkC o z true) vX.out ⟨xT.out, xS.out⟩ (by omega) s6.out)
   clear s6
   go_wp2_with (first | (refine ag rfl _ _ rfl _ _ rfl _ tA.out ?_) | (refine ag rfl _ _ rfl _ _ rfl _ tU.out ?_) | (go_at_call 149; refine ve.out.mono ?_; rintro e12 w12 ⟨v12, D12, rfl, hle12, hq12, hs12⟩; have yF := BO hq12; obtain ⟨hv2, wv2, hs2, ws2, rfl, hH2, hW2, _, _⟩ := hq12; have vy := BO (show ∀ u ∈ [hv2, wv2], u.oneCell' = true from fun u hu => by simp at hu; rcases hu with rfl | rfl; exact hH2.1.oneV; exact hW2.1.oneV); have vK := BO hle12; have tT := BO (hs12.front 3 rfl); clear hs12 hle12 hH2 hW2 ve tA tU) | (refine aq rfl _ _ _ rfl tRq b3 rfl [hv2, wv2] rfl nQ tT.out (by kernel_rfl) rfl vy.out ?_; intro w20 hs20; have te := BO hs20; clear hs20 tT))
   refine bodyPost_ret (aL rfl _ _ rfl (bi (ai (te.out.blk 0 rfl)))) rfl ?_
   rw [tk.out]
   exact ⟨_, D12, rfl, (tt.out).trans vK.out, yF.out, te.out.drop.drop.drop.drop⟩
  ·have tk := BO (show aV RC Q o c.c (!only) = if (!only) then (⟨Q.held, Q.waits.take at_ ++ [aG (mkC o z true)] ++ Q.waits.drop at_⟩, false) else (Q, false) by rw [uX.out, if_neg (by cases m1 <;> cases m2 <;> simp_all)])
   clear uX
   have hcs : m1 = true ∨ (m1 = false ∧ m2 = true) := by cases m1 <;> cases m2 <;> simp_all
   clear hfree
   rcases hcs with rfl | ⟨rfl, rfl⟩
   focus
    go_upto_region 13 with (first | (refine ag rfl _ _ rfl _ _ rfl _ tG.out ?_) | (go_at_call 148; first | (refine vl.out.mono ?_; rintro e10 w10 ⟨rfl, hk10⟩; have s9 := BO (ti.out.kept hk10); have uo := BO (ay (dR (s9.out.blk 0 rfl))); clear hk10 vl ti tG q0 q1 qf) | (refine (uZ.out _ s9.out).mono ?_; rintro e11 w11 ⟨rfl, hk11⟩; have s6 := BO (s9.out.kept hk11); clear hk11 uZ s9 uo)))
    have s6 := BO s9.out
    clear s9 uo uZ
   rotate_left
   focus
    go_upto_region 13 with (first | (refine ag rfl _ _ rfl _ _ rfl _ tG.out ?_) | (refine bG rfl _ _ rfl _ _ rfl _ uo.out ?_) | (go_at_call 148; first | (refine vl.out.mono ?_; rintro e10 w10 ⟨rfl, hk10⟩; have s9 := BO (ti.out.kept hk10); have uo := BO (ay (dR (s9.out.blk 0 rfl))); clear hk10 vl ti tG q0 q1 qf) | (refine (uZ.out _ s9.out).mono ?_; rintro e11 w11 ⟨rfl, hk11⟩; have s6 := BO (s9.out.kept hk11); clear hk11 uZ s9 uo)))
   all_goals
    cases only
    ·replace tk := BO (tk.out.trans (if_pos rfl))
     obtain ⟨q0, q1, qf⟩ := aH (s6.out.blk 1 rfl)
     go_upto_region 17 with (go_at_call 147; refine (g6 xn.out (by omega) s6.out).mono ?_; rintro e13 w13 ⟨v13, D13, rfl, hle13, hE13, hs13⟩; obtain ⟨ma, mc, rfl⟩ := hE13.1.shape; have uz := BO hle13; have tH := BO hs13; clear hs13 hle13 hE13 s6 q0 q1 qf)
     obtain ⟨q0, q1, qf⟩ := aH (tH.out.blk 1 rfl)
     have z17 := (d5 (tH.out.blk 0 rfl)).2
     go_upto_region 19 with fail
     rw [Aq.out]
     clear z17
     have hatb : at_ ≤ ws.length := yE.out
     have uA := BO (xn.out.mono uz.out)
     have uE := BO (tH.out.own_nil tRe 18)
     go_upto_region 20 with (first | (refine fN rfl _ _ rfl at_ rfl rfl uA.out rfl hatb ?_; intro v14 hv14; have vL := BO (hv14.rd uE.out).1; clear hv14) | (at_builtin; refine ar _ rfl _ _ d9 rfl tRe i0 _ 18 200 Tryz.underlying56 HI.out.1 HI.out.2.1 HI.out.2.2.1 HI.out.2.2.2 rfl _ 0 _ rfl uE.out _ (ws.take at_).length _ rfl vL.out (dF _) (by unfold maxLen; simp only [List.length_take, List.length_drop]; omega) (by simp only [List.length_take, List.length_drop]; omega) ?_; intro v15 w15 hs15 h15; have tP := BO hs15; clear hs15 h15 uE vL q0 q1 qf))
     have xp := BO (dW (ai (tP.out.blk 1 rfl)))
     have tS := BO ((tP.out.alloc (au (mkC o z true)).toArray tRe).front 1 rfl)
     have vM := BO (aT (size := 18) (n := 1) (tS.out.blk 1 rfl) (by simp [bM]) (by unfold maxLen; omega))
     clear tP
     go_upto_region 21 with (first | (refine ag rfl _ _ rfl _ _ rfl _ xp.out ?_) | (refine aC rfl _ _ rfl tRe i0 _ (au (mkC o z true)) rfl Tryz.underlying56 HI.out.1 HI.out.2.1 (HI.out.2.2.1.trans rfl) (by rw [bM]; decide) (by rw [bM]; decide) ?_) | (at_builtin; refine ar _ rfl _ _ d9 rfl tRe i0 _ 18 200 Tryz.underlying56 HI.out.1 HI.out.2.1 HI.out.2.2.1 HI.out.2.2.2 rfl _ (0 + (ws.take at_).length) _ rfl tS.out _ 1 _ rfl vM.out (by simpa using eA (mkC o z true)) (by unfold maxLen; simp only [List.length_take, List.length_drop]; omega) (by simp only [List.length_take, List.length_drop]; omega) ?_; intro v17 w17 hs17 h17; have tM := BO hs17; clear hs17 h17 tS vM xp))
     obtain ⟨q0, q1, qf⟩ := aH (tM.out.blk 3 rfl)
     go_upto_region 22 with (first | (refine fU rfl _ _ rfl at_ rfl rfl uA.out rfl hatb ?_; intro v18 hv18; have xq := BO (hv18.rd tM.out).1; clear hv18) | (at_builtin; refine ar _ rfl _ _ d9 rfl tRe i0 _ 18 200 Tryz.underlying56 HI.out.1 HI.out.2.1 HI.out.2.2.1 HI.out.2.2.2 rfl _ (0 + (ws.take at_).length + 1) _ rfl tM.out _ (ws.drop at_).length _ rfl xq.out (dF _) (by unfold maxLen; simp only [List.length_take, List.length_drop]; omega) (by simp only [List.length_take, List.length_drop]; omega) ?_; intro v19 w19 hs19 h19; have uK := BO hs19; clear hs19 tM xq q0 q1 qf))
     obtain ⟨q0, q1, qf⟩ := aH (uK.out.blk 3 rfl)
     have vA := BO (Sat.set2b (uK.out.front 3 rfl) v19)
     go_upto_region 23 with fail
     obtain ⟨W22, hW22, hs22⟩ := Sat.hide vA.out
     rw [← hW22]
     clear hW22 vA uK q0 q1 qf
     have xr := BO (bi (ai (hs22.blk 0 rfl)))
     have vN := BO (hs22.front 5 rfl)
     clear hs22
     have vy := BO (show ∀ u ∈ [Value.slice (some ⟨g, og, none⟩) hs.length hcp, v19], u.oneCell' = true from fun u hu => by simp at hu; rcases hu with rfl | rfl; rfl; exact h19)
     go_wp2_with (first | (refine ag rfl _ _ rfl _ _ rfl _ xr.out ?_) | (refine aq rfl _ _ _ rfl tRq b3 rfl [.slice (some ⟨g, og, none⟩) hs.length hcp, v19] rfl nQ vN.out (by kernel_rfl) rfl vy.out ?_; intro w20 hs20; have te := BO hs20; clear hs20 vN xr))
     refine bodyPost_ret (aL rfl _ _ rfl (bi (ai (te.out.blk 0 rfl)))) rfl ?_
     rw [tk.out]
     have hln : (ws.take at_ ++ [mkC o z true] ++ ws.drop at_).length = 0 + (ws.take at_).length + 1 + (ws.drop at_).length := by simp only [List.length_append, List.length_singleton]; omega
     obtain ⟨D', hle, hE, hs23⟩ := cX (zs := ws.take at_ ++ [mkC o z true] ++ ws.drop at_) (v := v19) (by show Sat B D13 _ (aJ tRe 18 _ (ws.take at_ ++ [mkC o z true] ++ ws.drop at_).length _ :: _); rw [hln, List.flatMap_append, List.flatMap_append]; have h9 := te.out.front 2 rfl; simpa using h9) (fun x hx => by
       rcases List.mem_append.1 hx with hx | hx
       ·rcases List.mem_append.1 hx with hx | hx
        ·exact uA.out.2 x (List.mem_of_mem_take hx)
        ·rw [List.mem_singleton.1 hx]; exact ⟨xT.out.mono uz.out, xS.out⟩
       ·exact uA.out.2 x (List.mem_of_mem_drop hx))
     exact ⟨_, D', rfl, ((tt.out).trans uz.out).trans hle, ⟨_, _, hs, ws.take at_ ++ [mkC o z true] ++ ws.drop at_, rfl, (zv.out.mono uz.out).mono hle, hE, vp.out, by rw [List.map_append, List.map_append, List.map_take, List.map_drop, vv.out]; rfl⟩, hs23.drop.drop.drop.drop.drop⟩
    ·replace tk := BO (tk.out.trans (if_neg (by simp)))
     have xk := BO (bi (ai (s6.out.blk 1 rfl)))
     have vZ := BO (s6.out.front 3 rfl)
     clear s6
     go_wp2_with (first | (refine ag rfl _ _ rfl _ _ rfl _ xk.out ?_) | (refine aq rfl _ _ _ rfl tRq b3 rfl [.slice (some ⟨g, og, none⟩) hs.length hcp, .slice wa ws.length wc] rfl nQ vZ.out (by kernel_rfl) rfl uh.out ?_; intro w20 hs20; have te := BO hs20; clear hs20 vZ xk))
     refine bodyPost_ret (aL rfl _ _ rfl (bi (ai (te.out.blk 0 rfl)))) rfl ?_
     rw [tk.out]
     exact ⟨_, D8, rfl, tt.out, vX.out, te.out.drop.drop.drop.drop⟩
 ·have hk0 : ¬ ((-1 : Int) ≥ 0) := by omega
  have HK := BO (show cl (cw RC o c.c) Q.held = -1 from hk)
  have vw := BO (show cL RC Q o c.c = some (⟨o, c.c, false⟩, Q.waits.length) by unfold cL; rw [ho])
  clear ho hk
  go_enter Tryz.func102, Tryz.ntmps102
  go_upto_region 1 with fail
  rw [← sR.out]
  clear sR
  generalize w.heap.size + 1 + 1 = b3 at *
  generalize w.heap.size + 1 = b2 at *
  generalize w.heap.size = b1 at *
  go_upto_region 3 with (first | (refine ag rfl _ _ rfl _ _ rfl _ tL.out ?_) | (go_at_call 144; refine uJ.out.mono ?_; rintro e1 w1 ⟨rfl, hs2⟩; have sX := BO hs2; clear hs2 uJ tL))
  have tL := BO (bi (ai (sX.out.blk 0 rfl)))
  have tg := BO (ay (ai (sX.out.blk 1 rfl)))
  have hown := jY (wv := .slice wa ws.length wc) o (HH.out.rd sX.out) (HC.out.rd sX.out)
  rw [fB (cw RC o c.c) hs, vp.out, HK.out] at hown
  have uG := BO hown
  clear hown
  go_upto_region 4 with (first | (refine ag rfl _ _ rfl _ _ rfl _ tL.out ?_) | (refine ag rfl _ _ rfl _ _ rfl _ tg.out ?_) | (go_at_call 145; refine uG.out.mono ?_; rintro e3 w3 ⟨rfl, hk3⟩; have sU := BO (sX.out.kept hk3); clear hk3 sX uG tL tg))
  have tg := BO (ay (ai (sU.out.blk 1 rfl)))
  have sY := BO (sU.out.alloc (au (mkC o c false)).toArray tRe)
  clear sU
  go_upto_region 5 with (first | (refine ag rfl _ _ rfl _ _ rfl _ tg.out ?_) | (refine fa rfl _ _ _ rfl o c false rfl rfl rfl ?_) | (refine ax rfl _ _ _ rfl (au (mkC o c false)) _ _ rfl rfl (by kernel_rfl) rfl (eA _) ?_))
  clear tg
  obtain ⟨W4, hW4, hs4⟩ := Sat.hide sY.out
  rw [← hW4]
  clear hW4 sY
  generalize w3.heap.size = bz at hs4 ⊢
  have sY := BO (show Sat B D W4 (blk bz (au (mkC o c false)).toArray tRe :: blk b1 #[.slice ha hs.length hcp, .slice wa ws.length wc] tRq :: blk b2 c.cells.toArray tCl :: blk b3 nQ tRq :: l) from hs4)
  clear hs4
  obtain ⟨q0, q1, qf⟩ := aH (sY.out.blk 1 rfl)
  go_upto_region 11 with fail
  clear q0 q1 qf
  have ti := BO sY.out
  clear sY
  have yE := BO (show ws.length ≤ ws.length by omega)
  have uR := BO (show ws.map aG = Q.waits.take ws.length by rw [vv.out, List.take_of_length_le (by omega)])
  have uQ := BO (show cL RC Q o c.c = some (aG (mkC o c false), ws.length) by rw [vw.out, Ao.out])
  have xS := BO xj.out
  have xT := BO HC.out
  have zv := BO HH.out
  have xn := BO uN.out
  have Ap := BO uN.out
  have vX := BO HQ.out
  clear vw HK hk0
  obtain ⟨q0, q1, qf⟩ := aH (ti.out.blk 1 rfl)
  have tG := BO (ay (dR (ti.out.blk 0 rfl)))
  have hme1 := eh o (zv.out.rd ti.out) (xT.out.rd ti.out) xS.out
  have hme2 := fun (W : World) (hW : Sat B D W (blk bz (au (mkC o c false)).toArray tRe :: blk b1 #[.slice ha hs.length hcp, .slice wa ws.length wc] tRq :: blk b2 c.cells.toArray tCl :: blk b3 nQ tRq :: l)) => eh (w := W) o (Ap.out.rd hW) (xT.out.rd hW) xS.out
  rw [dL (bC RC o c.c) hs, vp.out] at hme1
  rw [dL (bC RC o c.c) ws, uR.out] at hme2
  have uX := BO (show aV RC Q o c.c (!only) = if dB RC Q o c.c (Q.waits.take ws.length) then (ci RC Q (aG (mkC o c false)), true) else if (!only) then (⟨Q.held, Q.waits.take ws.length ++ [aG (mkC o c false)] ++ Q.waits.drop ws.length⟩, false) else (Q, false) from jB (e := aG (mkC o c false)) yv.out uQ.out)
  have zw := BO (show dB RC Q o c.c (Q.waits.take ws.length) = (!(Q.held.any (bC RC o c.c)) && !((Q.waits.take ws.length).any (bC RC o c.c))) from rfl)
  rw [zw.out] at uX
  generalize Q.held.any (bC RC o c.c) = m1 at hme1 uX
  generalize (Q.waits.take ws.length).any (bC RC o c.c) = m2 at hme2 uX
  have vl := BO hme1
  have uZ := BO hme2
  clear hme1 hme2 zw uQ yD
  by_cases hfree : m1 = false ∧ m2 = false
  ·obtain ⟨rfl, rfl⟩ := hfree
   have tk := BO (show aV RC Q o c.c (!only) = (ci RC Q (aG (mkC o c false)), true) by rw [uX.out]; rfl)
   clear uX
   go_upto_region 12 with (first | (refine ag rfl _ _ rfl _ _ rfl _ tG.out ?_) | (refine bG rfl _ _ rfl _ _ rfl _ uo.out ?_) | (go_at_call 148; first | (refine vl.out.mono ?_; rintro e10 w10 ⟨rfl, hk10⟩; have s9 := BO (ti.out.kept hk10); have uo := BO (ay (dR (s9.out.blk 0 rfl))); clear hk10 vl ti tG q0 q1 qf) | (refine (uZ.out _ s9.out).mono ?_; rintro e11 w11 ⟨rfl, hk11⟩; have s6 := BO (s9.out.kept hk11); clear hk11 uZ s9 uo)))
   have tA := BO (bi (ai (s6.out.blk 1 rfl)))
   have tU := BO (dW (ai (s6.out.blk 0 rfl)))
   have ve := BO (iP (mkC o c false) vX.out ⟨xT.out, xS.out⟩ (by omega) s6.out)
   clear s6
   go_wp2_with (first | (refine ag rfl _ _ rfl _ _ rfl _ tA.out ?_) | (refine ag rfl _ _ rfl _ _ rfl _ tU.out ?_) | (go_at_call 149; refine ve.out.mono ?_; rintro e12 w12 ⟨v12, D12, rfl, hle12, hq12, hs12⟩; have yF := BO hq12; obtain ⟨hv2, wv2, hs2, ws2, rfl, hH2, hW2, _, _⟩ := hq12; have vy := BO (show ∀ u ∈ [hv2, wv2], u.oneCell' = true from fun u hu => by simp at hu; rcases hu with rfl | rfl; exact hH2.1.oneV; exact hW2.1.oneV); have vK := BO hle12; have tT := BO (hs12.front 3 rfl); clear hs12 hle12 hH2 hW2 ve tA tU) | (refine aq rfl _ _ _ rfl tRq b3 rfl [hv2, wv2] rfl nQ tT.out (by kernel_rfl) rfl vy.out ?_; intro w20 hs20; have te := BO hs20; clear hs20 tT))
   refine bodyPost_ret (aL rfl _ _ rfl (bi (ai (te.out.blk 0 rfl)))) rfl ?_
   rw [tk.out]
   exact ⟨_, D12, rfl, (PH.le.refl _).trans vK.out, yF.out, te.out.drop.drop.drop.drop⟩
  ·have tk := BO (show aV RC Q o c.c (!only) = if (!only) then (⟨Q.held, Q.waits.take ws.length ++ [aG (mkC o c false)] ++ Q.waits.drop ws.length⟩, false) else (Q, false) by rw [uX.out, if_neg (by cases m1 <;> cases m2 <;> simp_all)])
   clear uX
   have hcs : m1 = true ∨ (m1 = false ∧ m2 = true) := by cases m1 <;> cases m2 <;> simp_all
   clear hfree
   rcases hcs with rfl | ⟨rfl, rfl⟩
   focus
    go_upto_region 13 with (first | (refine ag rfl _ _ rfl _ _ rfl _ tG.out ?_) | (go_at_call 148; first | (refine vl.out.mono ?_; rintro e10 w10 ⟨rfl, hk10⟩; have s9 := BO (ti.out.kept hk10); have uo := BO (ay (dR (s9.out.blk 0 rfl))); clear hk10 vl ti tG q0 q1 qf) | (refine (uZ.out _ s9.out).mono ?_; rintro e11 w11 ⟨rfl, hk11⟩; have s6 := BO (s9.out.kept hk11); clear hk11 uZ s9 uo)))
    have s6 := BO s9.out
    clear s9 uo uZ
   rotate_left
   focus
    go_upto_region 13 with (first | (refine ag rfl _ _ rfl _ _ rfl _ tG.out ?_) | (refine bG rfl _ _ rfl _ _ rfl _ uo.out ?_) | (go_at_call 148; first | (refine vl.out.mono ?_; rintro e10 w10 ⟨rfl, hk10⟩; have s9 := BO (ti.out.kept hk10); have uo := BO (ay (dR (s9.out.blk 0 rfl))); clear hk10 vl ti tG q0 q1 qf) | (refine (uZ.out _ s9.out).mono ?_; rintro e11 w11 ⟨rfl, hk11⟩; have s6 := BO (s9.out.kept hk11); clear hk11 uZ s9 uo)))
   all_goals
    cases only
    ·replace tk := BO (tk.out.trans (if_pos rfl))
     obtain ⟨q0, q1, qf⟩ := aH (s6.out.blk 1 rfl)
     go_upto_region 17 with (go_at_call 147; refine (g6 xn.out (by omega) s6.out).mono ?_; rintro e13 w13 ⟨v13, D13, rfl, hle13, hE13, hs13⟩; obtain ⟨ma, mc, rfl⟩ := hE13.1.shape; have uz := BO hle13; have tH := BO hs13; clear hs13 hle13 hE13 s6 q0 q1 qf)
     obtain ⟨q0, q1, qf⟩ := aH (tH.out.blk 1 rfl)
     have z17 := (d5 (tH.out.blk 0 rfl)).2
     go_upto_region 19 with fail
     skip
     clear z17
     have hatb : ws.length ≤ ws.length := yE.out
     have uA := BO (xn.out.mono uz.out)
     have uE := BO (tH.out.own_nil tRe 18)
     go_upto_region 20 with (first | (refine fN rfl _ _ rfl ws.length rfl rfl uA.out rfl hatb ?_; intro v14 hv14; have vL := BO (hv14.rd uE.out).1; clear hv14) | (at_builtin; refine ar _ rfl _ _ d9 rfl tRe i0 _ 18 200 Tryz.underlying56 HI.out.1 HI.out.2.1 HI.out.2.2.1 HI.out.2.2.2 rfl _ 0 _ rfl uE.out _ (ws.take ws.length).length _ rfl vL.out (dF _) (by unfold maxLen; simp only [List.length_take, List.length_drop]; omega) (by simp only [List.length_take, List.length_drop]; omega) ?_; intro v15 w15 hs15 h15; have tP := BO hs15; clear hs15 h15 uE vL q0 q1 qf))
     have xp := BO (dW (ai (tP.out.blk 1 rfl)))
     have tS := BO ((tP.out.alloc (au (mkC o c false)).toArray tRe).front 1 rfl)
     have vM := BO (aT (size := 18) (n := 1) (tS.out.blk 1 rfl) (by simp [bM]) (by unfold maxLen; omega))
     clear tP
     go_upto_region 21 with (first | (refine ag rfl _ _ rfl _ _ rfl _ xp.out ?_) | (refine aC rfl _ _ rfl tRe i0 _ (au (mkC o c false)) rfl Tryz.underlying56 HI.out.1 HI.out.2.1 (HI.out.2.2.1.trans rfl) (by rw [bM]; decide) (by rw [bM]; decide) ?_) | (at_builtin; refine ar _ rfl _ _ d9 rfl tRe i0 _ 18 200 Tryz.underlying56 HI.out.1 HI.out.2.1 HI.out.2.2.1 HI.out.2.2.2 rfl _ (0 + (ws.take ws.length).length) _ rfl tS.out _ 1 _ rfl vM.out (by simpa using eA (mkC o c false)) (by unfold maxLen; simp only [List.length_take, List.length_drop]; omega) (by simp only [List.length_take, List.length_drop]; omega) ?_; intro v17 w17 hs17 h17; have tM := BO hs17; clear hs17 h17 tS vM xp))
     obtain ⟨q0, q1, qf⟩ := aH (tM.out.blk 3 rfl)
     go_upto_region 22 with (first | (refine fU rfl _ _ rfl ws.length rfl rfl uA.out rfl hatb ?_; intro v18 hv18; have xq := BO (hv18.rd tM.out).1; clear hv18) | (at_builtin; refine ar _ rfl _ _ d9 rfl tRe i0 _ 18 200 Tryz.underlying56 HI.out.1 HI.out.2.1 HI.out.2.2.1 HI.out.2.2.2 rfl _ (0 + (ws.take ws.length).length + 1) _ rfl tM.out _ (ws.drop ws.length).length _ rfl xq.out (dF _) (by unfold maxLen; simp only [List.length_take, List.length_drop]; omega) (by simp only [List.length_take, List.length_drop]; omega) ?_; intro v19 w19 hs19 h19; have uK := BO hs19; clear hs19 tM xq q0 q1 qf))
     obtain ⟨q0, q1, qf⟩ := aH (uK.out.blk 3 rfl)
     have vA := BO (Sat.set2b (uK.out.front 3 rfl) v19)
     go_upto_region 23 with fail
     obtain ⟨W22, hW22, hs22⟩ := Sat.hide vA.out
     rw [← hW22]
     clear hW22 vA uK q0 q1 qf
     have xr := BO (bi (ai (hs22.blk 0 rfl)))
     have vN := BO (hs22.front 5 rfl)
     clear hs22
     have vy := BO (show ∀ u ∈ [Value.slice ha hs.length hcp, v19], u.oneCell' = true from fun u hu => by simp at hu; rcases hu with rfl | rfl; rfl; exact h19)
     go_wp2_with (first | (refine ag rfl _ _ rfl _ _ rfl _ xr.out ?_) | (refine aq rfl _ _ _ rfl tRq b3 rfl [.slice ha hs.length hcp, v19] rfl nQ vN.out (by kernel_rfl) rfl vy.out ?_; intro w20 hs20; have te := BO hs20; clear hs20 vN xr))
     refine bodyPost_ret (aL rfl _ _ rfl (bi (ai (te.out.blk 0 rfl)))) rfl ?_
     rw [tk.out]
     have hln : (ws.take ws.length ++ [mkC o c false] ++ ws.drop ws.length).length = 0 + (ws.take ws.length).length + 1 + (ws.drop ws.length).length := by simp only [List.length_append, List.length_singleton]; omega
     obtain ⟨D', hle, hE, hs23⟩ := cX (zs := ws.take ws.length ++ [mkC o c false] ++ ws.drop ws.length) (v := v19) (by show Sat B D13 _ (aJ tRe 18 _ (ws.take ws.length ++ [mkC o c false] ++ ws.drop ws.length).length _ :: _); rw [hln, List.flatMap_append, List.flatMap_append]; have h9 := te.out.front 2 rfl; simpa using h9) (fun x hx => by
       rcases List.mem_append.1 hx with hx | hx
       ·rcases List.mem_append.1 hx with hx | hx
        ·exact uA.out.2 x (List.mem_of_mem_take hx)
        ·rw [List.mem_singleton.1 hx]; exact ⟨xT.out.mono uz.out, xS.out⟩
       ·exact uA.out.2 x (List.mem_of_mem_drop hx))
     exact ⟨_, D', rfl, ((PH.le.refl _).trans uz.out).trans hle, ⟨_, _, hs, ws.take ws.length ++ [mkC o c false] ++ ws.drop ws.length, rfl, (zv.out.mono uz.out).mono hle, hE, vp.out, by rw [List.map_append, List.map_append, List.map_take, List.map_drop, vv.out]; rfl⟩, hs23.drop.drop.drop.drop.drop⟩
    ·replace tk := BO (tk.out.trans (if_neg (by simp)))
     have xk := BO (bi (ai (s6.out.blk 1 rfl)))
     have vZ := BO (s6.out.front 3 rfl)
     clear s6
     go_wp2_with (first | (refine ag rfl _ _ rfl _ _ rfl _ xk.out ?_) | (refine aq rfl _ _ _ rfl tRq b3 rfl [.slice ha hs.length hcp, .slice wa ws.length wc] rfl nQ vZ.out (by kernel_rfl) rfl uh.out ?_; intro w20 hs20; have te := BO hs20; clear hs20 vZ xk))
     refine bodyPost_ret (aL rfl _ _ rfl (bi (ai (te.out.blk 0 rfl)))) rfl ?_
     rw [tk.out]
     exact ⟨_, D, rfl, PH.le.refl _, vX.out, te.out.drop.drop.drop.drop⟩
end Go.Proofs.YtgljdkjepdknnaaGreatDoor
