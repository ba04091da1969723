/- The document's queue: asking (ratlineref10.Queue.Ask). (printed by genrqask.py) -/
import Derived.Test.YtgljdkjepdknnaaGreatDoorMR36
import Derived.Test.YtgljdkjepdknnaaGreatDoorMR26
namespace Go.Proofs.YtgljdkjepdknnaaGreatDoor
open Go.ChangeShapes Go.WideShapes Go.ChangeAt Go.RowKit
set_option maxRecDepth 100000
set_option linter.unusedSimpArgs false

theorem run_build_entR (w : World) (n : Int) (x : ClmE) (m : Bool) : (Instr.build tRe #[(0, .int .i64 n), (1, .agg x.cells.toArray), (2, .bool m)]).run Tryz.prog w = .ok (.agg (cellsC (mkC n x m)).toArray) w := run_build w _ _ _ (by kernel_rfl)
theorem wpList_build_entR {w : World} {o : Oper} {a : Act} {ops : Array Oper} {rest : List Oper} {Q : Exit → Act → World → Prop} (hgd : o.guard = none) (xo xc xm : Operand) (ho : o.op = .build tRe #[(0, xo), (1, xc), (2, xm)]) (n : Int) (x : ClmE) (m : Bool) (h1 : a.eval xo = .int .i64 n) (h2 : a.eval xc = .agg x.cells.toArray) (h3 : a.eval xm = .bool m)
  (h : wpList Tryz.prog ops Q rest (a.put o.dst (.agg (cellsC (mkC n x m)).toArray)) w) : wpList Tryz.prog ops Q (o :: rest) a w :=
 wpList_plain hgd fun _ hK => by
  have hrun := run_build_entR w n x m
  unfold Oper.wp execOp
  simp only [ho, List.map_toArray, List.map_cons, List.map_nil, h1, h2, h3, Sem.run_bind, Sem.run_pure, Result.andThen_ok, hrun]
  exact hK _ _ h
def AskGot (B : World) (D : PH) (l : List HP) (R : Qm Clm × Bool) (r : Ending) (w' : World) : Prop := ∃ (v : Value) (D' : PH), r = .returned (.tuple #[v, .bool R.2]) ∧ PH.le D D' ∧ QueD D' v R.1 ∧ Sat B D' w' l
theorem more_filter {ws : List EntE} {Q : Qm Clm} (hok : QOk Q) (h : ws.map entC = Q.waits) : (ws.filter (fun e => e.more)).map entC = Q.waits.take (moresN Q.waits) ∧ (ws.filter (fun e => e.more)).length = moresN Q.waits := by
 have e : (ws.filter (fun e => e.more)).map entC = Q.waits.take (moresN Q.waits) := by
  rw [moresN_take, more_take hok.mores, ← h, List.filter_map]
  rfl
 refine ⟨e, ?_⟩
 have := congrArg List.length e
 rw [List.length_map, List.length_take] at this
 have := moresN_le Q.waits
 omega
set_option maxHeartbeats 16000000 in
theorem rqAsk_ok {B w : World} {D : PH} {l : List HP} {v : Value} {Q : Qm Clm} (o : Int) (c : ClmE) (only : Bool) (hok : QOk Q) (hq : QueD D v Q) (hc : ClOk D c) (hfit : ClmFit c.c) (hsm : ClmSm 1000000 c.c) (hqs : ∀ e ∈ Q.held, ClmSm 1000000 e.c) (hh : Q.held.length ≤ 1000) (hw : Q.waits.length ≤ 1000) (s : Sat B D w l) :
  Calls Tryz.prog 102 #[v, .int .i64 o, .agg c.cells.toArray, .bool only] w (AskGot B D l (askQ RC Q o c.c (!only))) := by
 obtain ⟨i0, hi, hz0, hz1, hz2⟩ := info_parts infoRe
 have HI := Lib.hid (And.intro hi (And.intro hz0 (And.intro hz1 hz2)))
 have HQ := Lib.hid hq
 obtain ⟨hv, wv, hs, ws, rfl, hH, hW, hhq, hwq⟩ := hq
 obtain ⟨ha, hcp, rfl⟩ := hH.1.shape
 obtain ⟨wa, wc, rfl⟩ := hW.1.shape
 have hhl : hs.length ≤ Q.held.length ∧ Q.held.length ≤ hs.length := by have := congrArg List.length hhq; rw [List.length_map] at this; omega
 have HWL := Lib.hid (show ws.length = Q.waits.length by rw [← hwq, List.length_map])
 have hwl : ws.length ≤ Q.waits.length ∧ Q.waits.length ≤ ws.length := by have := HWL.out; omega
 have hhl2 : hs.length ≤ 1000 := by omega
 have hwl2 : ws.length ≤ 1000 := by omega
 obtain ⟨W1, hW1, hs1⟩ := three_new s #[.slice ha hs.length hcp, .slice wa ws.length wc] c.cells.toArray nQ tRq tCl tRq
 have HWT := Lib.hid (rqWaits_ok o HQ.out hs1)
 have HLQ := Lib.hid (loadQ2 (blk_range (hs1.blk 0 rfl)))
 have HONE := Lib.hid (show ∀ u ∈ [Value.slice ha hs.length hcp, .slice wa ws.length wc], u.oneCell' = true from fun u hu => by simp at hu; rcases hu with rfl | rfl <;> rfl)
 have HW1 := Lib.hid hW1
 have HOKQ := Lib.hid hok
 have HH := Lib.hid hH
 have HWD := Lib.hid hW
 have HHQ := Lib.hid hhq
 have HWQ := Lib.hid hwq
 have HC := Lib.hid hc
 have HFIT := Lib.hid hfit
 have HSM := Lib.hid hsm
 have HQS := Lib.hid hqs
 clear s hs1 hW1 hi hz0 hz1 hz2 hH hW hhq hwq hc hfit hsm hqs hok
 cases hwt : (waitsQ Q o).2
 rotate_left
 ·have HASK := Lib.hid (show askQ RC Q o c.c (!only) = (Q, false) by unfold askQ; rw [if_pos (by rw [← waitsQ_snd]; exact hwt)])
  rw [hwt] at HWT
  clear hwt
  go_enter Tryz.func102, Tryz.ntmps102
  go_upto_region 1 with fail
  rw [← HW1.out]
  clear HW1
  generalize w.heap.size + 1 + 1 = b3 at *
  generalize w.heap.size + 1 = b2 at *
  generalize w.heap.size = b1 at *
  go_upto_region 2 with (first | (refine wpList_ld rfl _ _ rfl _ _ rfl _ HLQ.out ?_) | (go_at_call 144; refine HWT.out.mono ?_; rintro e1 w1 ⟨rfl, hs2⟩; have HLR := Lib.hid (loadQ2 (blk_range (hs2.blk 0 rfl))); have HSR := Lib.hid (hs2.front 2 rfl); clear hs2 HWT HLQ))
  go_wp2_with (first | (refine wpList_ld rfl _ _ rfl _ _ rfl _ HLR.out ?_) | (refine wpList_store_whole rfl _ _ _ rfl tRq b3 rfl [.slice ha hs.length hcp, .slice wa ws.length wc] rfl nQ HSR.out (by kernel_rfl) rfl HONE.out ?_; intro w20 hs20; have HS20 := Lib.hid hs20; clear hs20 HSR HLR))
  refine bodyPost_ret (results_c2 rfl _ _ rfl (loadQ2 (blk_range (HS20.out.blk 0 rfl)))) rfl ?_
  rw [HASK.out]
  exact ⟨_, D, rfl, PH.le.refl _, HQ.out, HS20.out.drop.drop.drop⟩
 rw [hwt] at HWT
 have HWN := Lib.hid (show (waitAt Q.waits o).isSome = false by rw [← waitsQ_snd]; exact hwt)
 clear hwt
 rcases own_cases (R := RC) Q.held o c.c with ⟨k, ho, hk, hlt⟩ | ⟨ho, hk⟩
 ·obtain ⟨e0, he0⟩ : ∃ e, hs[k]? = some e := ⟨hs[k]'(by omega), List.getElem?_eq_getElem _⟩
  have HX0 := Lib.hid (show Q.held[k]? = some (entC e0) by rw [← HHQ.out, List.getElem?_map, he0]; rfl)
  have HE0 := Lib.hid he0
  have hkl : (k : Int) < (hs.length : Int) := by omega
  have hk0 : (k : Int) ≥ 0 := by omega
  have HK := Lib.hid (show idxI (sameE RC o c.c) Q.held = (k : Int) from hk)
  have HO := Lib.hid ho
  clear ho hk he0
  go_enter Tryz.func102, Tryz.ntmps102
  go_upto_region 1 with fail
  rw [← HW1.out]
  clear HW1
  generalize w.heap.size + 1 + 1 = b3 at *
  generalize w.heap.size + 1 = b2 at *
  generalize w.heap.size = b1 at *
  go_upto_region 3 with (first | (refine wpList_ld rfl _ _ rfl _ _ rfl _ HLQ.out ?_) | (go_at_call 144; refine HWT.out.mono ?_; rintro e1 w1 ⟨rfl, hs2⟩; have HS2 := Lib.hid hs2; clear hs2 HWT HLQ))
  have HLQ := Lib.hid (loadQ2 (blk_range (HS2.out.blk 0 rfl)))
  have HLC := Lib.hid (loadCl (blk_range (HS2.out.blk 1 rfl)))
  have hown := rqOwn_ok (wv := .slice wa ws.length wc) o (HH.out.rd HS2.out) (HC.out.rd HS2.out)
  rw [idx_map_C (sameE RC o c.c) hs, HHQ.out, HK.out] at hown
  have HOWN := Lib.hid hown
  clear hown
  go_upto_region 4 with (first | (refine wpList_ld rfl _ _ rfl _ _ rfl _ HLQ.out ?_) | (refine wpList_ld rfl _ _ rfl _ _ rfl _ HLC.out ?_) | (go_at_call 145; refine HOWN.out.mono ?_; rintro e3 w3 ⟨rfl, hk3⟩; have HS3 := Lib.hid (HS2.out.kept hk3); clear hk3 HS2 HOWN HLQ HLC))
  have HLC := Lib.hid (loadCl (blk_range (HS3.out.blk 1 rfl)))
  have HS4 := Lib.hid (HS3.out.alloc (cellsC (mkC o c true)).toArray tRe)
  clear HS3
  go_upto_region 5 with (first | (refine wpList_ld rfl _ _ rfl _ _ rfl _ HLC.out ?_) | (refine wpList_build_entR rfl _ _ _ rfl o c true rfl rfl rfl ?_) | (refine wpList_store_new rfl _ _ _ rfl (cellsC (mkC o c true)) _ _ rfl rfl (by kernel_rfl) rfl (oneC _) ?_))
  clear HLC
  obtain ⟨W4, hW4, hs4⟩ := Sat.hide HS4.out
  rw [← hW4]
  clear hW4 HS4
  generalize w3.heap.size = bz at hs4 ⊢
  have HS4 := Lib.hid (show Sat B D W4 (blk bz (cellsC (mkC o c true)).toArray tRe :: blk b1 #[.slice ha hs.length hcp, .slice wa ws.length wc] tRq :: blk b2 c.cells.toArray tCl :: blk b3 nQ tRq :: l) from hs4)
  clear hs4
  obtain ⟨q0, q1, qf⟩ := cells2 (HS4.out.blk 1 rfl)
  go_upto_region 7 with fail
  obtain ⟨g, og, hg, _, hr2, y0, hre, hfe⟩ := entAt (HH.out.rd HS4.out) rfl HE0.out
  subst hg
  have HXOK := Lib.hid (HH.out.2 e0 (List.mem_of_getElem? HE0.out))
  have HLH := Lib.hid (loadCl (w := W4.drew) hr2)
  have HLC := Lib.hid (loadCl (w := W4.drew) (blk_range (HS4.out.drew.blk 2 rfl)))
  have HCOV := Lib.hid (rCov_ok (w := W4.drew) (HXOK.out.1.rd HS4.out.drew) (HC.out.rd HS4.out.drew))
  clear hr2 y0 hre hfe
  cases hcv : RC.cov e0.x.c c.c
  rotate_left
  ·rw [hcv] at HCOV
   have HASK := Lib.hid (show askQ RC Q o c.c (!only) = (Q, true) by unfold askQ; rw [if_neg (by rw [HWN.out]; simp)]; unfold askFor; rw [HO.out]; dsimp only; rw [HX0.out]; dsimp only; rw [if_pos hcv])
   clear hcv
   refine wp_region_canon [(0, false, 7), (1, false, 7), (2, false, 7), (3, false, 7), (4, false, 7), (5, false, 7), (6, false, 7), (7, true, 0)] (by kernel_rfl) (by kernel_rfl) ?_
   iterate 7 (refine wpCan_read rfl rfl (fun K hK => ?_); (first | ((refine still_ld _ _ rfl _ _ rfl _ HLH.out ?_); go_simp) | ((refine still_ld _ _ rfl _ _ rfl _ HLC.out ?_); go_simp) | go_simp); refine hK _ ?_; clear hK K)
   refine wpCan_eff rfl ?_
   refine wpList_do rfl (fun K hK => ?_)
   go_simp
   refine HCOV.out.mono ?_
   rintro e5 w5 ⟨rfl, hk5⟩
   have HS5 := Lib.hid (HS4.out.drew.kept hk5)
   clear hk5 HCOV HLH HLC HS4 q0 q1 qf
   have HLR := Lib.hid (loadQ2 (blk_range (HS5.out.blk 1 rfl)))
   refine hK _ _ ?_
   clear hK K
   refine wpList_nil ?_
   refine And.intro ?_ ?_
   ·go_simp
   refine wpCan_nil ?_
   have HSR := Lib.hid (HS5.out.front 3 rfl)
   clear HS5
   go_wp2_with (first | (refine wpList_ld rfl _ _ rfl _ _ rfl _ HLR.out ?_) | (refine wpList_store_whole rfl _ _ _ rfl tRq b3 rfl [.slice (some ⟨g, og, none⟩) hs.length hcp, .slice wa ws.length wc] rfl nQ HSR.out (by kernel_rfl) rfl HONE.out ?_; intro w20 hs20; have HS20 := Lib.hid hs20; clear hs20 HSR HLR))
   refine bodyPost_ret (results_c2 rfl _ _ rfl (loadQ2 (blk_range (HS20.out.blk 0 rfl)))) rfl ?_
   rw [HASK.out]
   exact ⟨_, D, rfl, PH.le.refl _, HQ.out, HS20.out.drop.drop.drop.drop⟩
  rw [hcv] at HCOV
  have HFOR0 := Lib.hid (show askFor RC Q o c.c = some (⟨o, RC.join e0.x.c c.c, true⟩, moresN Q.waits) by unfold askFor; rw [HO.out]; dsimp only; rw [HX0.out]; dsimp only; rw [if_neg (by rw [hcv]; simp)])
  clear hcv
  refine wp_region_canon [(0, false, 7), (1, false, 7), (2, false, 7), (3, false, 7), (4, false, 7), (5, false, 7), (6, false, 7), (7, true, 0)] (by kernel_rfl) (by kernel_rfl) ?_
  iterate 7 (refine wpCan_read rfl rfl (fun K hK => ?_); (first | ((refine still_ld _ _ rfl _ _ rfl _ HLH.out ?_); go_simp) | ((refine still_ld _ _ rfl _ _ rfl _ HLC.out ?_); go_simp) | go_simp); refine hK _ ?_; clear hK K)
  refine wpCan_eff rfl ?_
  refine wpList_do rfl (fun K hK => ?_)
  go_simp
  refine HCOV.out.mono ?_
  rintro e5 w5 ⟨rfl, hk5⟩
  have HS5 := Lib.hid (HS4.out.drew.kept hk5)
  clear hk5 HCOV HLH HLC HS4 q0 q1 qf
  obtain ⟨q0, q1, qf⟩ := cells2 (HS5.out.blk 1 rfl)
  refine hK _ _ ?_
  clear hK K
  refine wpList_nil ?_
  refine And.intro ?_ ?_
  ·go_simp
  refine wpCan_nil ?_
  go_upto_region 9 with fail
  obtain ⟨g2, og2, hg2, _, hr2, y0, hre, hfe⟩ := entAt (HH.out.rd HS5.out.drew) rfl HE0.out
  cases hg2
  have HLH := Lib.hid (loadCl (w := w5.drew) hr2)
  have HLC := Lib.hid (loadCl (w := w5.drew) (blk_range (HS5.out.drew.blk 2 rfl)))
  have HJN := Lib.hid (rcJoin_ok HXOK.out.1 HC.out (HQS.out _ (List.mem_of_getElem? HX0.out)) HSM.out HS5.out.drew)
  clear hr2 y0 hre hfe
  refine wp_region_canon [(0, false, 7), (1, false, 7), (2, false, 7), (3, false, 7), (4, false, 7), (5, false, 7), (6, false, 7), (7, true, 0), (8, false, 9), (9, true, 0)] (by kernel_rfl) (by kernel_rfl) ?_
  iterate 7 (refine wpCan_read rfl rfl (fun K hK => ?_); (first | ((refine still_ld _ _ rfl _ _ rfl _ HLH.out ?_); go_simp) | ((refine still_ld _ _ rfl _ _ rfl _ HLC.out ?_); go_simp) | go_simp); refine hK _ ?_; clear hK K)
  refine wpCan_eff rfl ?_
  refine wpList_do rfl (fun K hK => ?_)
  go_simp
  refine HJN.out.mono ?_
  rintro e6 w6 ⟨z, D6, rfl, hzc, hle6, hok6, hs6⟩
  have HZC := Lib.hid hzc
  have HLE6 := Lib.hid hle6
  have HZ6 := Lib.hid hok6
  have HS6 := Lib.hid hs6
  clear hzc hle6 hok6 hs6 HJN HLH HLC HS5 q0 q1 qf
  refine hK _ _ ?_
  clear hK K
  refine wpList_nil ?_
  refine And.intro ?_ ?_
  ·go_simp
  iterate 1 (refine wpCan_read rfl rfl (fun K hK => ?_); (first | ((refine still_ld _ _ rfl _ _ rfl _ HLH.out ?_); go_simp) | ((refine still_ld _ _ rfl _ _ rfl _ HLC.out ?_); go_simp) | go_simp); refine hK _ ?_; clear hK K)
  refine wpCan_eff rfl ?_
  refine wpList_store_at rfl _ _ _ rfl tRe bz 1 rfl z.cells rfl (cellsC (mkC o c true)) HS6.out (by kernel_rfl) (by rw [lenC, ClmE.len]; decide) (ClmE.one z) ?_
  intro w7 hs7
  rw [entC_setC] at hs7
  have HS7 := Lib.hid hs7
  clear hs7 HS6
  refine wpList_nil ?_
  refine And.intro ?_ ?_
  ·go_simp
  refine wpCan_nil ?_
  obtain ⟨q0, q1, qf⟩ := cells2 (HS7.out.blk 1 rfl)
  go_upto_region 11 with (go_at_call 147; refine (rqMores_ok (HWD.out.mono HLE6.out) (by omega) HS7.out).mono ?_; rintro e8 w8 ⟨av, D8, rfl, hle8, hA8, hs8⟩; have HLE8 := Lib.hid hle8; have HA9 := Lib.hid hA8; have HS9 := Lib.hid hs8; clear hle8 hA8 hs8 HS7 q0 q1 qf)
  have HMF := Lib.hid (more_filter HOKQ.out HWQ.out)
  obtain ⟨at_, hat⟩ : ∃ n, moresN Q.waits = n := ⟨_, rfl⟩
  have HATB := Lib.hid (show at_ ≤ ws.length by rw [← hat, HWL.out]; exact moresN_le _)
  rw [hat] at HMF HFOR0
  have HAT := Lib.hid HMF.out.1
  have HATN := Lib.hid HMF.out.2
  have HFOR := Lib.hid (show askFor RC Q o c.c = some (entC (mkC o z true), at_) by rw [HFOR0.out, show entC (mkC o z true) = ⟨o, z.c, true⟩ from rfl, HZC.out])
  have HZF := Lib.hid (show ClmFit z.c by rw [HZC.out]; exact join_fit HXOK.out.2 HFIT.out)
  have HLE := Lib.hid (HLE6.out.trans HLE8.out)
  have HZ9 := Lib.hid (HZ6.out.mono HLE8.out)
  have HH9 := Lib.hid (HH.out.mono HLE.out)
  have HWD9 := Lib.hid (HWD.out.mono HLE.out)
  have HQ9 := Lib.hid (HQ.out.mono HLE.out)
  clear hat HMF HFOR0 HLE6 HLE8 HZ6 HX0 HE0 HXOK HO HK hkl hk0
  obtain ⟨q0, q1, qf⟩ := cells2 (HS9.out.blk 1 rfl)
  have HLZ := Lib.hid (loadCl (boxCl (HS9.out.blk 0 rfl)))
  have hme1 := rqMeets_ok o (HH9.out.rd HS9.out) (HZ9.out.rd HS9.out) HZF.out
  have hme2 := fun (W : World) (hW : Sat B D8 W (blk bz (cellsC (mkC o z true)).toArray tRe :: blk b1 #[.slice (some ⟨g, og, none⟩) hs.length hcp, .slice wa ws.length wc] tRq :: blk b2 c.cells.toArray tCl :: blk b3 nQ tRq :: l)) => rqMeets_ok (w := W) o (HA9.out.rd hW) (HZ9.out.rd hW) HZF.out
  rw [any_map_C (meetsE RC o z.c) hs, HHQ.out] at hme1
  rw [any_map_C (meetsE RC o z.c) (ws.filter (fun e => e.more)), HAT.out] at hme2
  have HGO := Lib.hid (show askQ RC Q o c.c (!only) = if freeE RC Q o z.c (Q.waits.take at_) then (giveQ RC Q (entC (mkC o z true)), true) else if (!only) then (⟨Q.held, Q.waits.take at_ ++ [entC (mkC o z true)] ++ Q.waits.drop at_⟩, false) else (Q, false) from askQ_go (e := entC (mkC o z true)) HWN.out HFOR.out)
  have HFR := Lib.hid (show freeE RC Q o z.c (Q.waits.take at_) = (!(Q.held.any (meetsE RC o z.c)) && !((Q.waits.take at_).any (meetsE RC o z.c))) from rfl)
  rw [HFR.out] at HGO
  generalize Q.held.any (meetsE RC o z.c) = m1 at hme1 HGO
  generalize (Q.waits.take at_).any (meetsE RC o z.c) = m2 at hme2 HGO
  have HM1 := Lib.hid hme1
  have HM2 := Lib.hid hme2
  clear hme1 hme2 HFR HFOR HOKQ
  by_cases hfree : m1 = false ∧ m2 = false
  ·obtain ⟨rfl, rfl⟩ := hfree
   have HASK := Lib.hid (show askQ RC Q o c.c (!only) = (giveQ RC Q (entC (mkC o z true)), true) by rw [HGO.out]; rfl)
   clear HGO
   go_upto_region 12 with (first | (refine wpList_ld rfl _ _ rfl _ _ rfl _ HLZ.out ?_) | (refine wpList_ldw rfl _ _ rfl _ _ rfl _ HLZ2.out ?_) | (go_at_call 148; first | (refine HM1.out.mono ?_; rintro e10 w10 ⟨rfl, hk10⟩; have HS10 := Lib.hid (HS9.out.kept hk10); have HLZ2 := Lib.hid (loadCl (boxCl (HS10.out.blk 0 rfl))); clear hk10 HM1 HS9 HLZ q0 q1 qf) | (refine (HM2.out _ HS10.out).mono ?_; rintro e11 w11 ⟨rfl, hk11⟩; have HS11 := Lib.hid (HS10.out.kept hk11); clear hk11 HM2 HS10 HLZ2)))
   have HL1 := Lib.hid (loadQ2 (blk_range (HS11.out.blk 1 rfl)))
   have HL2 := Lib.hid (loadRe (blk_range (HS11.out.blk 0 rfl)))
   have HGV := Lib.hid (rqGive_ok (mkC o z true) HQ9.out ⟨HZ9.out, HZF.out⟩ (by omega) HS11.out)
   clear HS11
   go_wp2_with (first | (refine wpList_ld rfl _ _ rfl _ _ rfl _ HL1.out ?_) | (refine wpList_ld rfl _ _ rfl _ _ rfl _ HL2.out ?_) | (go_at_call 149; refine HGV.out.mono ?_; rintro e12 w12 ⟨v12, D12, rfl, hle12, hq12, hs12⟩; have HQ12 := Lib.hid hq12; obtain ⟨hv2, wv2, hs2, ws2, rfl, hH2, hW2, _, _⟩ := hq12; have HO2 := Lib.hid (show ∀ u ∈ [hv2, wv2], u.oneCell' = true from fun u hu => by simp at hu; rcases hu with rfl | rfl; exact hH2.1.oneV; exact hW2.1.oneV); have HLE12 := Lib.hid hle12; have HS12 := Lib.hid (hs12.front 3 rfl); clear hs12 hle12 hH2 hW2 HGV HL1 HL2) | (refine wpList_store_whole rfl _ _ _ rfl tRq b3 rfl [hv2, wv2] rfl nQ HS12.out (by kernel_rfl) rfl HO2.out ?_; intro w20 hs20; have HS20 := Lib.hid hs20; clear hs20 HS12))
   refine bodyPost_ret (results_c2 rfl _ _ rfl (loadQ2 (blk_range (HS20.out.blk 0 rfl)))) rfl ?_
   rw [HASK.out]
   exact ⟨_, D12, rfl, (HLE.out).trans HLE12.out, HQ12.out, HS20.out.drop.drop.drop.drop⟩
  ·have HASK := Lib.hid (show askQ RC Q o c.c (!only) = if (!only) then (⟨Q.held, Q.waits.take at_ ++ [entC (mkC o z true)] ++ Q.waits.drop at_⟩, false) else (Q, false) by rw [HGO.out, if_neg (by cases m1 <;> cases m2 <;> simp_all)])
   clear HGO
   have hcs : m1 = true ∨ (m1 = false ∧ m2 = true) := by cases m1 <;> cases m2 <;> simp_all
   clear hfree
   rcases hcs with rfl | ⟨rfl, rfl⟩
   focus
    go_upto_region 13 with (first | (refine wpList_ld rfl _ _ rfl _ _ rfl _ HLZ.out ?_) | (go_at_call 148; first | (refine HM1.out.mono ?_; rintro e10 w10 ⟨rfl, hk10⟩; have HS10 := Lib.hid (HS9.out.kept hk10); have HLZ2 := Lib.hid (loadCl (boxCl (HS10.out.blk 0 rfl))); clear hk10 HM1 HS9 HLZ q0 q1 qf) | (refine (HM2.out _ HS10.out).mono ?_; rintro e11 w11 ⟨rfl, hk11⟩; have HS11 := Lib.hid (HS10.out.kept hk11); clear hk11 HM2 HS10 HLZ2)))
    have HS11 := Lib.hid HS10.out
    clear HS10 HLZ2 HM2
   rotate_left
   focus
    go_upto_region 13 with (first | (refine wpList_ld rfl _ _ rfl _ _ rfl _ HLZ.out ?_) | (refine wpList_ldw rfl _ _ rfl _ _ rfl _ HLZ2.out ?_) | (go_at_call 148; first | (refine HM1.out.mono ?_; rintro e10 w10 ⟨rfl, hk10⟩; have HS10 := Lib.hid (HS9.out.kept hk10); have HLZ2 := Lib.hid (loadCl (boxCl (HS10.out.blk 0 rfl))); clear hk10 HM1 HS9 HLZ q0 q1 qf) | (refine (HM2.out _ HS10.out).mono ?_; rintro e11 w11 ⟨rfl, hk11⟩; have HS11 := Lib.hid (HS10.out.kept hk11); clear hk11 HM2 HS10 HLZ2)))
   all_goals
    cases only
    ·replace HASK := Lib.hid (HASK.out.trans (if_pos rfl))
     obtain ⟨q0, q1, qf⟩ := cells2 (HS11.out.blk 1 rfl)
     go_upto_region 17 with (go_at_call 147; refine (rqMores_ok HWD9.out (by omega) HS11.out).mono ?_; rintro e13 w13 ⟨v13, D13, rfl, hle13, hE13, hs13⟩; obtain ⟨ma, mc, rfl⟩ := hE13.1.shape; have HLE13 := Lib.hid hle13; have HS13 := Lib.hid hs13; clear hs13 hle13 hE13 HS11 q0 q1 qf)
     obtain ⟨q0, q1, qf⟩ := cells2 (HS13.out.blk 1 rfl)
     have z17 := (boxC (HS13.out.blk 0 rfl)).2
     go_upto_region 19 with fail
     rw [HATN.out]
     clear z17
     have hatb : at_ ≤ ws.length := HATB.out
     have HWD13 := Lib.hid (HWD9.out.mono HLE13.out)
     have HSN := Lib.hid (HS13.out.own_nil tRe 18)
     go_upto_region 20 with (first | (refine wpList_cut_h rfl _ _ rfl at_ rfl rfl HWD13.out rfl hatb ?_; intro v14 hv14; have HV14 := Lib.hid (hv14.rd HSN.out).1; clear hv14) | (at_builtin; refine wpList_append_Sat _ rfl _ _ tREs rfl tRe i0 _ 18 200 Tryz.underlying56 HI.out.1 HI.out.2.1 HI.out.2.2.1 HI.out.2.2.2 rfl _ 0 _ rfl HSN.out _ (ws.take at_).length _ rfl HV14.out (flat_one18 _) (by unfold maxLen; simp only [List.length_take, List.length_drop]; omega) (by simp only [List.length_take, List.length_drop]; omega) ?_; intro v15 w15 hs15 h15; have HS15 := Lib.hid hs15; clear hs15 h15 HSN HV14 q0 q1 qf))
     have HL15 := Lib.hid (loadRe (blk_range (HS15.out.blk 1 rfl)))
     have HS16 := Lib.hid ((HS15.out.alloc (cellsC (mkC o z true)).toArray tRe).front 1 rfl)
     have HRD16 := Lib.hid (rd_block (size := 18) (n := 1) (HS16.out.blk 1 rfl) (by simp [lenC]) (by unfold maxLen; omega))
     clear HS15
     go_upto_region 21 with (first | (refine wpList_ld rfl _ _ rfl _ _ rfl _ HL15.out ?_) | (refine wpList_build_one rfl _ _ rfl tRe i0 _ (cellsC (mkC o z true)) rfl Tryz.underlying56 HI.out.1 HI.out.2.1 (HI.out.2.2.1.trans rfl) (by rw [lenC]; decide) (by rw [lenC]; decide) ?_) | (at_builtin; refine wpList_append_Sat _ rfl _ _ tREs rfl tRe i0 _ 18 200 Tryz.underlying56 HI.out.1 HI.out.2.1 HI.out.2.2.1 HI.out.2.2.2 rfl _ (0 + (ws.take at_).length) _ rfl HS16.out _ 1 _ rfl HRD16.out (by simpa using oneC (mkC o z true)) (by unfold maxLen; simp only [List.length_take, List.length_drop]; omega) (by simp only [List.length_take, List.length_drop]; omega) ?_; intro v17 w17 hs17 h17; have HS17 := Lib.hid hs17; clear hs17 h17 HS16 HRD16 HL15))
     obtain ⟨q0, q1, qf⟩ := cells2 (HS17.out.blk 3 rfl)
     go_upto_region 22 with (first | (refine wpList_cut_l rfl _ _ rfl at_ rfl rfl HWD13.out rfl hatb ?_; intro v18 hv18; have HV18 := Lib.hid (hv18.rd HS17.out).1; clear hv18) | (at_builtin; refine wpList_append_Sat _ rfl _ _ tREs rfl tRe i0 _ 18 200 Tryz.underlying56 HI.out.1 HI.out.2.1 HI.out.2.2.1 HI.out.2.2.2 rfl _ (0 + (ws.take at_).length + 1) _ rfl HS17.out _ (ws.drop at_).length _ rfl HV18.out (flat_one18 _) (by unfold maxLen; simp only [List.length_take, List.length_drop]; omega) (by simp only [List.length_take, List.length_drop]; omega) ?_; intro v19 w19 hs19 h19; have HS19 := Lib.hid hs19; clear hs19 HS17 HV18 q0 q1 qf))
     obtain ⟨q0, q1, qf⟩ := cells2 (HS19.out.blk 3 rfl)
     have HS21 := Lib.hid (Sat.set2b (HS19.out.front 3 rfl) v19)
     go_upto_region 23 with fail
     obtain ⟨W22, hW22, hs22⟩ := Sat.hide HS21.out
     rw [← hW22]
     clear hW22 HS21 HS19 q0 q1 qf
     have HL22 := Lib.hid (loadQ2 (blk_range (hs22.blk 0 rfl)))
     have HS22 := Lib.hid (hs22.front 5 rfl)
     clear hs22
     have HO2 := Lib.hid (show ∀ u ∈ [Value.slice (some ⟨g, og, none⟩) hs.length hcp, v19], u.oneCell' = true from fun u hu => by simp at hu; rcases hu with rfl | rfl; rfl; exact h19)
     go_wp2_with (first | (refine wpList_ld rfl _ _ rfl _ _ rfl _ HL22.out ?_) | (refine wpList_store_whole rfl _ _ _ rfl tRq b3 rfl [.slice (some ⟨g, og, none⟩) hs.length hcp, v19] rfl nQ HS22.out (by kernel_rfl) rfl HO2.out ?_; intro w20 hs20; have HS20 := Lib.hid hs20; clear hs20 HS22 HL22))
     refine bodyPost_ret (results_c2 rfl _ _ rfl (loadQ2 (blk_range (HS20.out.blk 0 rfl)))) rfl ?_
     rw [HASK.out]
     have hln : (ws.take at_ ++ [mkC o z true] ++ ws.drop at_).length = 0 + (ws.take at_).length + 1 + (ws.drop at_).length := by simp only [List.length_append, List.length_singleton]; omega
     obtain ⟨D', hle, hE, hs23⟩ := entsR_give (zs := ws.take at_ ++ [mkC o z true] ++ ws.drop at_) (v := v19) (by show Sat B D13 _ (ownS tRe 18 _ (ws.take at_ ++ [mkC o z true] ++ ws.drop at_).length _ :: _); rw [hln, List.flatMap_append, List.flatMap_append]; have h9 := HS20.out.front 2 rfl; simpa using h9) (fun x hx => by
       rcases List.mem_append.1 hx with hx | hx
       ·rcases List.mem_append.1 hx with hx | hx
        ·exact HWD13.out.2 x (List.mem_of_mem_take hx)
        ·rw [List.mem_singleton.1 hx]; exact ⟨HZ9.out.mono HLE13.out, HZF.out⟩
       ·exact HWD13.out.2 x (List.mem_of_mem_drop hx))
     exact ⟨_, D', rfl, ((HLE.out).trans HLE13.out).trans hle, ⟨_, _, hs, ws.take at_ ++ [mkC o z true] ++ ws.drop at_, rfl, (HH9.out.mono HLE13.out).mono hle, hE, HHQ.out, by rw [List.map_append, List.map_append, List.map_take, List.map_drop, HWQ.out]; rfl⟩, hs23.drop.drop.drop.drop.drop⟩
    ·replace HASK := Lib.hid (HASK.out.trans (if_neg (by simp)))
     have HLR := Lib.hid (loadQ2 (blk_range (HS11.out.blk 1 rfl)))
     have HSR := Lib.hid (HS11.out.front 3 rfl)
     clear HS11
     go_wp2_with (first | (refine wpList_ld rfl _ _ rfl _ _ rfl _ HLR.out ?_) | (refine wpList_store_whole rfl _ _ _ rfl tRq b3 rfl [.slice (some ⟨g, og, none⟩) hs.length hcp, .slice wa ws.length wc] rfl nQ HSR.out (by kernel_rfl) rfl HONE.out ?_; intro w20 hs20; have HS20 := Lib.hid hs20; clear hs20 HSR HLR))
     refine bodyPost_ret (results_c2 rfl _ _ rfl (loadQ2 (blk_range (HS20.out.blk 0 rfl)))) rfl ?_
     rw [HASK.out]
     exact ⟨_, D8, rfl, HLE.out, HQ9.out, HS20.out.drop.drop.drop.drop⟩
 ·have hk0 : ¬ ((-1 : Int) ≥ 0) := by omega
  have HK := Lib.hid (show idxI (sameE RC o c.c) Q.held = -1 from hk)
  have HFOR0 := Lib.hid (show askFor RC Q o c.c = some (⟨o, c.c, false⟩, Q.waits.length) by unfold askFor; rw [ho])
  clear ho hk
  go_enter Tryz.func102, Tryz.ntmps102
  go_upto_region 1 with fail
  rw [← HW1.out]
  clear HW1
  generalize w.heap.size + 1 + 1 = b3 at *
  generalize w.heap.size + 1 = b2 at *
  generalize w.heap.size = b1 at *
  go_upto_region 3 with (first | (refine wpList_ld rfl _ _ rfl _ _ rfl _ HLQ.out ?_) | (go_at_call 144; refine HWT.out.mono ?_; rintro e1 w1 ⟨rfl, hs2⟩; have HS2 := Lib.hid hs2; clear hs2 HWT HLQ))
  have HLQ := Lib.hid (loadQ2 (blk_range (HS2.out.blk 0 rfl)))
  have HLC := Lib.hid (loadCl (blk_range (HS2.out.blk 1 rfl)))
  have hown := rqOwn_ok (wv := .slice wa ws.length wc) o (HH.out.rd HS2.out) (HC.out.rd HS2.out)
  rw [idx_map_C (sameE RC o c.c) hs, HHQ.out, HK.out] at hown
  have HOWN := Lib.hid hown
  clear hown
  go_upto_region 4 with (first | (refine wpList_ld rfl _ _ rfl _ _ rfl _ HLQ.out ?_) | (refine wpList_ld rfl _ _ rfl _ _ rfl _ HLC.out ?_) | (go_at_call 145; refine HOWN.out.mono ?_; rintro e3 w3 ⟨rfl, hk3⟩; have HS3 := Lib.hid (HS2.out.kept hk3); clear hk3 HS2 HOWN HLQ HLC))
  have HLC := Lib.hid (loadCl (blk_range (HS3.out.blk 1 rfl)))
  have HS4 := Lib.hid (HS3.out.alloc (cellsC (mkC o c false)).toArray tRe)
  clear HS3
  go_upto_region 5 with (first | (refine wpList_ld rfl _ _ rfl _ _ rfl _ HLC.out ?_) | (refine wpList_build_entR rfl _ _ _ rfl o c false rfl rfl rfl ?_) | (refine wpList_store_new rfl _ _ _ rfl (cellsC (mkC o c false)) _ _ rfl rfl (by kernel_rfl) rfl (oneC _) ?_))
  clear HLC
  obtain ⟨W4, hW4, hs4⟩ := Sat.hide HS4.out
  rw [← hW4]
  clear hW4 HS4
  generalize w3.heap.size = bz at hs4 ⊢
  have HS4 := Lib.hid (show Sat B D W4 (blk bz (cellsC (mkC o c false)).toArray tRe :: blk b1 #[.slice ha hs.length hcp, .slice wa ws.length wc] tRq :: blk b2 c.cells.toArray tCl :: blk b3 nQ tRq :: l) from hs4)
  clear hs4
  obtain ⟨q0, q1, qf⟩ := cells2 (HS4.out.blk 1 rfl)
  go_upto_region 11 with fail
  clear q0 q1 qf
  have HS9 := Lib.hid HS4.out
  clear HS4
  have HATB := Lib.hid (show ws.length ≤ ws.length by omega)
  have HAT := Lib.hid (show ws.map entC = Q.waits.take ws.length by rw [HWQ.out, List.take_of_length_le (by omega)])
  have HFOR := Lib.hid (show askFor RC Q o c.c = some (entC (mkC o c false), ws.length) by rw [HFOR0.out, HWL.out])
  have HZF := Lib.hid HFIT.out
  have HZ9 := Lib.hid HC.out
  have HH9 := Lib.hid HH.out
  have HWD9 := Lib.hid HWD.out
  have HA9 := Lib.hid HWD.out
  have HQ9 := Lib.hid HQ.out
  clear HFOR0 HK hk0
  obtain ⟨q0, q1, qf⟩ := cells2 (HS9.out.blk 1 rfl)
  have HLZ := Lib.hid (loadCl (boxCl (HS9.out.blk 0 rfl)))
  have hme1 := rqMeets_ok o (HH9.out.rd HS9.out) (HZ9.out.rd HS9.out) HZF.out
  have hme2 := fun (W : World) (hW : Sat B D W (blk bz (cellsC (mkC o c false)).toArray tRe :: blk b1 #[.slice ha hs.length hcp, .slice wa ws.length wc] tRq :: blk b2 c.cells.toArray tCl :: blk b3 nQ tRq :: l)) => rqMeets_ok (w := W) o (HA9.out.rd hW) (HZ9.out.rd hW) HZF.out
  rw [any_map_C (meetsE RC o c.c) hs, HHQ.out] at hme1
  rw [any_map_C (meetsE RC o c.c) ws, HAT.out] at hme2
  have HGO := Lib.hid (show askQ RC Q o c.c (!only) = if freeE RC Q o c.c (Q.waits.take ws.length) then (giveQ RC Q (entC (mkC o c false)), true) else if (!only) then (⟨Q.held, Q.waits.take ws.length ++ [entC (mkC o c false)] ++ Q.waits.drop ws.length⟩, false) else (Q, false) from askQ_go (e := entC (mkC o c false)) HWN.out HFOR.out)
  have HFR := Lib.hid (show freeE RC Q o c.c (Q.waits.take ws.length) = (!(Q.held.any (meetsE RC o c.c)) && !((Q.waits.take ws.length).any (meetsE RC o c.c))) from rfl)
  rw [HFR.out] at HGO
  generalize Q.held.any (meetsE RC o c.c) = m1 at hme1 HGO
  generalize (Q.waits.take ws.length).any (meetsE RC o c.c) = m2 at hme2 HGO
  have HM1 := Lib.hid hme1
  have HM2 := Lib.hid hme2
  clear hme1 hme2 HFR HFOR HOKQ
  by_cases hfree : m1 = false ∧ m2 = false
  ·obtain ⟨rfl, rfl⟩ := hfree
   have HASK := Lib.hid (show askQ RC Q o c.c (!only) = (giveQ RC Q (entC (mkC o c false)), true) by rw [HGO.out]; rfl)
   clear HGO
   go_upto_region 12 with (first | (refine wpList_ld rfl _ _ rfl _ _ rfl _ HLZ.out ?_) | (refine wpList_ldw rfl _ _ rfl _ _ rfl _ HLZ2.out ?_) | (go_at_call 148; first | (refine HM1.out.mono ?_; rintro e10 w10 ⟨rfl, hk10⟩; have HS10 := Lib.hid (HS9.out.kept hk10); have HLZ2 := Lib.hid (loadCl (boxCl (HS10.out.blk 0 rfl))); clear hk10 HM1 HS9 HLZ q0 q1 qf) | (refine (HM2.out _ HS10.out).mono ?_; rintro e11 w11 ⟨rfl, hk11⟩; have HS11 := Lib.hid (HS10.out.kept hk11); clear hk11 HM2 HS10 HLZ2)))
   have HL1 := Lib.hid (loadQ2 (blk_range (HS11.out.blk 1 rfl)))
   have HL2 := Lib.hid (loadRe (blk_range (HS11.out.blk 0 rfl)))
   have HGV := Lib.hid (rqGive_ok (mkC o c false) HQ9.out ⟨HZ9.out, HZF.out⟩ (by omega) HS11.out)
   clear HS11
   go_wp2_with (first | (refine wpList_ld rfl _ _ rfl _ _ rfl _ HL1.out ?_) | (refine wpList_ld rfl _ _ rfl _ _ rfl _ HL2.out ?_) | (go_at_call 149; refine HGV.out.mono ?_; rintro e12 w12 ⟨v12, D12, rfl, hle12, hq12, hs12⟩; have HQ12 := Lib.hid hq12; obtain ⟨hv2, wv2, hs2, ws2, rfl, hH2, hW2, _, _⟩ := hq12; have HO2 := Lib.hid (show ∀ u ∈ [hv2, wv2], u.oneCell' = true from fun u hu => by simp at hu; rcases hu with rfl | rfl; exact hH2.1.oneV; exact hW2.1.oneV); have HLE12 := Lib.hid hle12; have HS12 := Lib.hid (hs12.front 3 rfl); clear hs12 hle12 hH2 hW2 HGV HL1 HL2) | (refine wpList_store_whole rfl _ _ _ rfl tRq b3 rfl [hv2, wv2] rfl nQ HS12.out (by kernel_rfl) rfl HO2.out ?_; intro w20 hs20; have HS20 := Lib.hid hs20; clear hs20 HS12))
   refine bodyPost_ret (results_c2 rfl _ _ rfl (loadQ2 (blk_range (HS20.out.blk 0 rfl)))) rfl ?_
   rw [HASK.out]
   exact ⟨_, D12, rfl, (PH.le.refl _).trans HLE12.out, HQ12.out, HS20.out.drop.drop.drop.drop⟩
  ·have HASK := Lib.hid (show askQ RC Q o c.c (!only) = if (!only) then (⟨Q.held, Q.waits.take ws.length ++ [entC (mkC o c false)] ++ Q.waits.drop ws.length⟩, false) else (Q, false) by rw [HGO.out, if_neg (by cases m1 <;> cases m2 <;> simp_all)])
   clear HGO
   have hcs : m1 = true ∨ (m1 = false ∧ m2 = true) := by cases m1 <;> cases m2 <;> simp_all
   clear hfree
   rcases hcs with rfl | ⟨rfl, rfl⟩
   focus
    go_upto_region 13 with (first | (refine wpList_ld rfl _ _ rfl _ _ rfl _ HLZ.out ?_) | (go_at_call 148; first | (refine HM1.out.mono ?_; rintro e10 w10 ⟨rfl, hk10⟩; have HS10 := Lib.hid (HS9.out.kept hk10); have HLZ2 := Lib.hid (loadCl (boxCl (HS10.out.blk 0 rfl))); clear hk10 HM1 HS9 HLZ q0 q1 qf) | (refine (HM2.out _ HS10.out).mono ?_; rintro e11 w11 ⟨rfl, hk11⟩; have HS11 := Lib.hid (HS10.out.kept hk11); clear hk11 HM2 HS10 HLZ2)))
    have HS11 := Lib.hid HS10.out
    clear HS10 HLZ2 HM2
   rotate_left
   focus
    go_upto_region 13 with (first | (refine wpList_ld rfl _ _ rfl _ _ rfl _ HLZ.out ?_) | (refine wpList_ldw rfl _ _ rfl _ _ rfl _ HLZ2.out ?_) | (go_at_call 148; first | (refine HM1.out.mono ?_; rintro e10 w10 ⟨rfl, hk10⟩; have HS10 := Lib.hid (HS9.out.kept hk10); have HLZ2 := Lib.hid (loadCl (boxCl (HS10.out.blk 0 rfl))); clear hk10 HM1 HS9 HLZ q0 q1 qf) | (refine (HM2.out _ HS10.out).mono ?_; rintro e11 w11 ⟨rfl, hk11⟩; have HS11 := Lib.hid (HS10.out.kept hk11); clear hk11 HM2 HS10 HLZ2)))
   all_goals
    cases only
    ·replace HASK := Lib.hid (HASK.out.trans (if_pos rfl))
     obtain ⟨q0, q1, qf⟩ := cells2 (HS11.out.blk 1 rfl)
     go_upto_region 17 with (go_at_call 147; refine (rqMores_ok HWD9.out (by omega) HS11.out).mono ?_; rintro e13 w13 ⟨v13, D13, rfl, hle13, hE13, hs13⟩; obtain ⟨ma, mc, rfl⟩ := hE13.1.shape; have HLE13 := Lib.hid hle13; have HS13 := Lib.hid hs13; clear hs13 hle13 hE13 HS11 q0 q1 qf)
     obtain ⟨q0, q1, qf⟩ := cells2 (HS13.out.blk 1 rfl)
     have z17 := (boxC (HS13.out.blk 0 rfl)).2
     go_upto_region 19 with fail
     skip
     clear z17
     have hatb : ws.length ≤ ws.length := HATB.out
     have HWD13 := Lib.hid (HWD9.out.mono HLE13.out)
     have HSN := Lib.hid (HS13.out.own_nil tRe 18)
     go_upto_region 20 with (first | (refine wpList_cut_h rfl _ _ rfl ws.length rfl rfl HWD13.out rfl hatb ?_; intro v14 hv14; have HV14 := Lib.hid (hv14.rd HSN.out).1; clear hv14) | (at_builtin; refine wpList_append_Sat _ rfl _ _ tREs rfl tRe i0 _ 18 200 Tryz.underlying56 HI.out.1 HI.out.2.1 HI.out.2.2.1 HI.out.2.2.2 rfl _ 0 _ rfl HSN.out _ (ws.take ws.length).length _ rfl HV14.out (flat_one18 _) (by unfold maxLen; simp only [List.length_take, List.length_drop]; omega) (by simp only [List.length_take, List.length_drop]; omega) ?_; intro v15 w15 hs15 h15; have HS15 := Lib.hid hs15; clear hs15 h15 HSN HV14 q0 q1 qf))
     have HL15 := Lib.hid (loadRe (blk_range (HS15.out.blk 1 rfl)))
     have HS16 := Lib.hid ((HS15.out.alloc (cellsC (mkC o c false)).toArray tRe).front 1 rfl)
     have HRD16 := Lib.hid (rd_block (size := 18) (n := 1) (HS16.out.blk 1 rfl) (by simp [lenC]) (by unfold maxLen; omega))
     clear HS15
     go_upto_region 21 with (first | (refine wpList_ld rfl _ _ rfl _ _ rfl _ HL15.out ?_) | (refine wpList_build_one rfl _ _ rfl tRe i0 _ (cellsC (mkC o c false)) rfl Tryz.underlying56 HI.out.1 HI.out.2.1 (HI.out.2.2.1.trans rfl) (by rw [lenC]; decide) (by rw [lenC]; decide) ?_) | (at_builtin; refine wpList_append_Sat _ rfl _ _ tREs rfl tRe i0 _ 18 200 Tryz.underlying56 HI.out.1 HI.out.2.1 HI.out.2.2.1 HI.out.2.2.2 rfl _ (0 + (ws.take ws.length).length) _ rfl HS16.out _ 1 _ rfl HRD16.out (by simpa using oneC (mkC o c false)) (by unfold maxLen; simp only [List.length_take, List.length_drop]; omega) (by simp only [List.length_take, List.length_drop]; omega) ?_; intro v17 w17 hs17 h17; have HS17 := Lib.hid hs17; clear hs17 h17 HS16 HRD16 HL15))
     obtain ⟨q0, q1, qf⟩ := cells2 (HS17.out.blk 3 rfl)
     go_upto_region 22 with (first | (refine wpList_cut_l rfl _ _ rfl ws.length rfl rfl HWD13.out rfl hatb ?_; intro v18 hv18; have HV18 := Lib.hid (hv18.rd HS17.out).1; clear hv18) | (at_builtin; refine wpList_append_Sat _ rfl _ _ tREs rfl tRe i0 _ 18 200 Tryz.underlying56 HI.out.1 HI.out.2.1 HI.out.2.2.1 HI.out.2.2.2 rfl _ (0 + (ws.take ws.length).length + 1) _ rfl HS17.out _ (ws.drop ws.length).length _ rfl HV18.out (flat_one18 _) (by unfold maxLen; simp only [List.length_take, List.length_drop]; omega) (by simp only [List.length_take, List.length_drop]; omega) ?_; intro v19 w19 hs19 h19; have HS19 := Lib.hid hs19; clear hs19 HS17 HV18 q0 q1 qf))
     obtain ⟨q0, q1, qf⟩ := cells2 (HS19.out.blk 3 rfl)
     have HS21 := Lib.hid (Sat.set2b (HS19.out.front 3 rfl) v19)
     go_upto_region 23 with fail
     obtain ⟨W22, hW22, hs22⟩ := Sat.hide HS21.out
     rw [← hW22]
     clear hW22 HS21 HS19 q0 q1 qf
     have HL22 := Lib.hid (loadQ2 (blk_range (hs22.blk 0 rfl)))
     have HS22 := Lib.hid (hs22.front 5 rfl)
     clear hs22
     have HO2 := Lib.hid (show ∀ u ∈ [Value.slice ha hs.length hcp, v19], u.oneCell' = true from fun u hu => by simp at hu; rcases hu with rfl | rfl; rfl; exact h19)
     go_wp2_with (first | (refine wpList_ld rfl _ _ rfl _ _ rfl _ HL22.out ?_) | (refine wpList_store_whole rfl _ _ _ rfl tRq b3 rfl [.slice ha hs.length hcp, v19] rfl nQ HS22.out (by kernel_rfl) rfl HO2.out ?_; intro w20 hs20; have HS20 := Lib.hid hs20; clear hs20 HS22 HL22))
     refine bodyPost_ret (results_c2 rfl _ _ rfl (loadQ2 (blk_range (HS20.out.blk 0 rfl)))) rfl ?_
     rw [HASK.out]
     have hln : (ws.take ws.length ++ [mkC o c false] ++ ws.drop ws.length).length = 0 + (ws.take ws.length).length + 1 + (ws.drop ws.length).length := by simp only [List.length_append, List.length_singleton]; omega
     obtain ⟨D', hle, hE, hs23⟩ := entsR_give (zs := ws.take ws.length ++ [mkC o c false] ++ ws.drop ws.length) (v := v19) (by show Sat B D13 _ (ownS tRe 18 _ (ws.take ws.length ++ [mkC o c false] ++ ws.drop ws.length).length _ :: _); rw [hln, List.flatMap_append, List.flatMap_append]; have h9 := HS20.out.front 2 rfl; simpa using h9) (fun x hx => by
       rcases List.mem_append.1 hx with hx | hx
       ·rcases List.mem_append.1 hx with hx | hx
        ·exact HWD13.out.2 x (List.mem_of_mem_take hx)
        ·rw [List.mem_singleton.1 hx]; exact ⟨HZ9.out.mono HLE13.out, HZF.out⟩
       ·exact HWD13.out.2 x (List.mem_of_mem_drop hx))
     exact ⟨_, D', rfl, ((PH.le.refl _).trans HLE13.out).trans hle, ⟨_, _, hs, ws.take ws.length ++ [mkC o c false] ++ ws.drop ws.length, rfl, (HH9.out.mono HLE13.out).mono hle, hE, HHQ.out, by rw [List.map_append, List.map_append, List.map_take, List.map_drop, HWQ.out]; rfl⟩, hs23.drop.drop.drop.drop.drop⟩
    ·replace HASK := Lib.hid (HASK.out.trans (if_neg (by simp)))
     have HLR := Lib.hid (loadQ2 (blk_range (HS11.out.blk 1 rfl)))
     have HSR := Lib.hid (HS11.out.front 3 rfl)
     clear HS11
     go_wp2_with (first | (refine wpList_ld rfl _ _ rfl _ _ rfl _ HLR.out ?_) | (refine wpList_store_whole rfl _ _ _ rfl tRq b3 rfl [.slice ha hs.length hcp, .slice wa ws.length wc] rfl nQ HSR.out (by kernel_rfl) rfl HONE.out ?_; intro w20 hs20; have HS20 := Lib.hid hs20; clear hs20 HSR HLR))
     refine bodyPost_ret (results_c2 rfl _ _ rfl (loadQ2 (blk_range (HS20.out.blk 0 rfl)))) rfl ?_
     rw [HASK.out]
     exact ⟨_, D, rfl, PH.le.refl _, HQ9.out, HS20.out.drop.drop.drop.drop⟩
end Go.Proofs.YtgljdkjepdknnaaGreatDoor
