/- Asking, over claims. (printed by genaskc.py) -/
import Derived.Test.YtgljdkjepdknnaaGreatDoorMR13
import Derived.Test.YtgljdkjepdknnaaGreatDoorMR14
namespace Go.Proofs.YtgljdkjepdknnaaGreatDoor
open Go.ChangeShapes Go.WideShapes Go.ChangeAt Go.RowKit
set_option maxRecDepth 100000
set_option linter.unusedSimpArgs false

theorem que_mono_C {B w : World} {D D' : PH} {l : List HP} {q : Nat} {Q : Qm Clm} {D0 : PH} (h : Sat B D0 w (queC D q Q :: l)) (le : PH.le D D') : Sat B D0 w (queC D' q Q :: l) :=
 h.weaken (fun _ ⟨x, ⟨h1, h2⟩, H⟩ => ⟨x, ⟨⟨h1.1, fun e he => (h1.2 e he).mono le⟩, ⟨h2.1, fun e he => (h2.2 e he).mono le⟩⟩, H⟩)
theorem run_build_ent (w : World) (n : Int) (x : ClmE) : (Instr.build tEnC #[(0, .int .i64 n), (1, .agg x.cells.toArray)]).run Tryz.prog w = .ok (.agg (cellsC (mkC n x false)).toArray) w := run_build w _ _ _ (by kernel_rfl)
theorem wpList_build_ent {w : World} {o : Oper} {a : Act} {ops : Array Oper} {rest : List Oper} {Q : Exit → Act → World → Prop} (hgd : o.guard = none) (xo xc : Operand) (ho : o.op = .build tEnC #[(0, xo), (1, xc)]) (n : Int) (x : ClmE) (h1 : a.eval xo = .int .i64 n) (h2 : a.eval xc = .agg x.cells.toArray)
  (h : wpList Tryz.prog ops Q rest (a.put o.dst (.agg (cellsC (mkC n x false)).toArray)) w) : wpList Tryz.prog ops Q (o :: rest) a w :=
 wpList_plain hgd fun _ hK => by
  have hrun := run_build_ent w n x
  unfold Oper.wp execOp
  simp only [ho, List.map_toArray, List.map_cons, List.map_nil, h1, h2, Sem.run_bind, Sem.run_pure, Result.andThen_ok, hrun]
  exact hK _ _ h
theorem rangeCl {w : World} {g o : Nat} {e : EntE} (h : w.rangeAt g o (cellsC e)) : w.rangeAt g (o + 1) e.x.cells := fun j v hv => by
 have hj : j < 16 := by have := (List.getElem?_eq_some_iff.1 hv).1; rwa [ClmE.len] at this
 have := h (1 + j) v (by
  rw [← hv, show 1 + j = j + 1 by omega]
  simp only [cellsC, List.getElem?_cons_succ]
  show (e.x.cells ++ [.bool e.more])[j]? = _
  rw [List.getElem?_append_left (by rw [ClmE.len]; exact hj)])
 rw [← Nat.add_assoc] at this
 exact this
theorem entC_setC (n : Int) (x z : ClmE) (b : Bool) : lay (cellsC (mkC n x b)) 1 z.cells = cellsC (mkC n z b) := rfl
theorem Sat.setMore {B w : World} {D : PH} {l : List HP} {b : Nat} {n : Int} {x : ClmE} {m : Bool} (hs : Sat B D w (Proofs.YtgljdkjepdknnaaGreatDoor.blk b (cellsC (mkC n x m)).toArray tEnC :: l)) (u : Bool) : Sat B D (w.setCell ⟨b, 17, none⟩ (.bool u)) (Proofs.YtgljdkjepdknnaaGreatDoor.blk b (cellsC (mkC n x u)).toArray tEnC :: l) := hs.set 17 (.bool u)
/-- what asking comes to -/
def AskedC (B : World) (D : PH) (l : List HP) (q : Nat) (R : Qm Clm × Bool) (r : Ending) (w' : World) : Prop := ∃ D' : PH, r = .returned (.bool R.2) ∧ PH.le D D' ∧ Sat B D' w' (queC D' q R.1 :: l)
set_option maxHeartbeats 16000000 in
theorem ask_C {B w : World} {D : PH} {l : List HP} {q : Nat} {Q : Qm Clm} (o : Int) (c : ClmE) (b : Bool) (hD : EnvD D) (hc : ClOk D c) (hsm : ClmSm 1000000 c.c) (hqs : ∀ e ∈ Q.held, ClmSm 1000000 e.c) (hh : Q.held.length ≤ 100000) (hww : Q.waits.length ≤ 1000) (h : Sat B D w (queC D q Q :: l)) :
  Calls Tryz.prog 87 #[.pointer (some ⟨q, 0, none⟩), .int .i64 o, cvC c, .bool b] w (AskedC B D l q (askQ RC Q o (cdC c) b)) := by
 obtain ⟨i0, hi, hz0, hz1, hz2⟩ := info_parts infoC
 have HI := Lib.hid (And.intro hi (And.intro hz0 (And.intro hz1 hz2)))
 clear hi hz0 hz1 hz2
 obtain ⟨W0, hW0, hs0⟩ : ∃ W, W = w.alloc (.cells c.cells.toArray tCl) ∧ Sat B D W (queC D q Q :: blk w.heap.size c.cells.toArray tCl :: l) := ⟨_, rfl, (h.alloc _ _).swap⟩
 have HW0 := Lib.hid hW0
 have HD0 := Lib.hid hD
 have HC := Lib.hid hc
 have HSM := Lib.hid hsm
 have HQS := Lib.hid hqs
 have HS := Lib.hid hs0
 have HW := Lib.hid (waiting_C o hs0)
 clear h hD hW0 hs0 hc hsm hqs
 rcases wait_cases Q.waits o with ⟨hw, hk⟩ | ⟨hw, hk⟩
 ·have HASK := Lib.hid (show askQ RC Q o (cdC c) b = (Q, false) by unfold askQ; rw [if_pos hw])
  rw [HASK.out]
  generalize idxI (ofE o) Q.waits = k at *
  clear hw
  go_enter Tryz.func87, Tryz.ntmps87
  go_upto_region 1 with fail
  rw [← HW0.out]
  clear HW0
  generalize w.heap.size = bc at *
  go_wp2_with (go_at_call 82; refine HW.out.mono ?_; rintro e1 w1 ⟨rfl, hk1⟩; have HS1 := Lib.hid (HS.out.kept hk1); clear hk1 HS HW)
  go_ret
  exact ⟨D, rfl, PH.le.refl _, HS1.out.swap.drop⟩
 rw [hk] at HW
 have HWN := Lib.hid hw
 clear hk hw
 rcases own_cases (R := RC) Q.held o (cdC c) with ⟨k, ho, hk, hlt⟩ | ⟨ho, hk⟩
 ·obtain ⟨x0, hx0⟩ : ∃ x, Q.held[k]? = some x := ⟨Q.held[k], List.getElem?_eq_getElem hlt⟩
  have HX0 := Lib.hid hx0
  have HO := Lib.hid ho
  have HK := Lib.hid hk
  clear hx0 ho hk
  cases hcv : RC.cov x0.c (cdC c)
  ·have HFOR := Lib.hid (show askFor RC Q o (cdC c) = some (⟨o, RC.join x0.c (cdC c), true⟩, moresN Q.waits) by unfold askFor; simp only [HO.out, HX0.out, hcv]; simp)
   have HCV := Lib.hid hcv
   clear hcv
   go_enter Tryz.func87, Tryz.ntmps87
   go_upto_region 1 with fail
   rw [← HW0.out]
   clear HW0
   generalize w.heap.size = bc at *
   go_upto_region 3 with (go_at_call 82; refine HW.out.mono ?_; rintro e1 w1 ⟨rfl, hk1⟩; have HS1 := Lib.hid (HS.out.kept hk1); clear hk1 HS HW)
   have HLC := Lib.hid (loadCl (blk_range (HS1.out.blk 1 rfl)))
   have HS2 := Lib.hid (HS1.out.alloc (cellsC (mkC o c false)).toArray tEnC)
   clear HS1
   go_upto_region 4 with (first | (refine wpList_ld rfl _ _ rfl _ _ rfl _ HLC.out ?_) | (refine wpList_build_ent rfl _ _ rfl o c rfl rfl ?_) | (refine wpList_store_new rfl _ _ _ rfl (cellsC (mkC o c false)) _ _ rfl rfl (by kernel_rfl) rfl (oneC _) ?_))
   clear HLC
   obtain ⟨W2, hW2, hs2⟩ := Sat.hide HS2.out
   rw [← hW2]
   clear hW2 HS2
   generalize w1.heap.size = bz at hs2 ⊢
   have HS2 := Lib.hid hs2.swap
   have HLC := Lib.hid (loadCl (blk_range (hs2.blk 2 rfl)))
   obtain ⟨hv, wv, hs, ws, hr1, hr2, h2⟩ := queOpen_C hs2.swap
   obtain ⟨wa, wc, rfl⟩ := (h2.front 2 rfl).own_shape
   obtain ⟨c0, c1, c2, c3, c4, c5, cf⟩ := cells6 (h2.blk 0 rfl)
   generalize ws.length = nw at c5
   clear hs2 h2 hr1 hr2
   go_upto_region 6 with (first | (refine wpList_ld rfl _ _ rfl _ _ rfl _ HLC.out ?_) | (go_at_call 133; refine (own_C o c (PH.le.refl _) HC.out HS2.out).mono ?_; rw [HK.out]; rintro e3 w3 ⟨rfl, hk3⟩; have HS6 := Lib.hid (HS2.out.kept hk3); clear hk3 HS2 HLC c0 c1 c2 c3 c4 c5 cf))
   obtain ⟨hv, wv, hs, ws, hr1, hr2, h1⟩ := queOpen_C HS6.out
   obtain ⟨x, hx, hxe⟩ : ∃ x, hs[k]? = some x ∧ entC x = x0 := by
    have hx0 := HX0.out
    rw [← hr1.1, List.getElem?_map] at hx0
    cases hxx : hs[k]? with
    | none => rw [hxx] at hx0; cases hx0
    | some x => rw [hxx] at hx0; exact ⟨x, rfl, Option.some.inj hx0⟩
   have HXE := Lib.hid (show x.x.c = x0.c by rw [← hxe])
   have HXOK := Lib.hid (show ClOk D x.x from hr1.2 x (List.mem_of_getElem? hx))
   obtain ⟨ha, hcp, rfl⟩ := (h1.front 1 rfl).own_shape
   obtain ⟨g, og, rfl, hrng⟩ := elem_range lenC (h1.own 1 rfl).rd hx rfl
   have HLH := Lib.hid (loadCl (rangeCl hrng))
   obtain ⟨c0, c1, c2, c3, c4, c5, cf⟩ := cells6 (h1.blk 0 rfl)
   have hkl : (k : Int) < (hs.length : Int) := by have := (List.getElem?_eq_some_iff.1 hx).1; omega
   generalize hs.length = nh at c4 hkl
   clear hr1 hr2 h1 hx hxe hrng
   have HS7 := Lib.hid ((HS6.out.alloc x.x.cells.toArray tCl).swap)
   go_upto_region 8 with (first | (refine wpList_ld rfl _ _ rfl _ _ rfl _ HLH.out ?_) | (refine wpList_store_new rfl _ _ _ rfl x.x.cells _ _ rfl rfl (by kernel_rfl) rfl (ClmE.one _) ?_))
   clear HLH HS6 c0 c1 c2 c3 c4 c5 cf
   obtain ⟨W7, hW7, hs7⟩ := Sat.hide HS7.out
   rw [← hW7]
   clear hW7 HS7
   generalize w3.heap.size = bh at hs7 ⊢
   have HS7 := Lib.hid (show Sat B D W7 (queC D q Q :: blk bh x.x.cells.toArray tCl :: blk bz (cellsC (mkC o c false)).toArray tEnC :: blk bc c.cells.toArray tCl :: l) from hs7)
   clear hs7
   obtain ⟨hv, wv, hs, ws, hr1, hr2, h3⟩ := queOpen_C HS7.out
   obtain ⟨c0, c1, c2, c3, c4, c5, cf⟩ := cells6 (h3.blk 0 rfl)
   clear hr1 hr2 h3
   have HLH := Lib.hid (loadCl (w := W7.drew) (blk_range (HS7.out.drew.blk 1 rfl)))
   have HLC := Lib.hid (loadCl (w := W7.drew) (blk_range (HS7.out.drew.blk 3 rfl)))
   have HCOV := Lib.hid (cov_C (HD0.out.env HS7.out.drew) (HXOK.out.rd HS7.out.drew) (HC.out.rd HS7.out.drew))
   rw [HXE.out, HCV.out] at HCOV
   refine wp_region_canon [(0, false, 7), (1, false, 7), (2, false, 7), (3, false, 7), (4, false, 7), (5, false, 7), (6, false, 7), (7, true, 0)] (by kernel_rfl) (by kernel_rfl) ?_
   iterate 7 (refine wpCan_read rfl rfl (fun K hK => ?_); (first | ((refine still_ld _ _ rfl _ _ rfl _ HLH.out ?_); go_simp) | ((refine still_ld _ _ rfl _ _ rfl _ HLC.out ?_); go_simp) | go_simp); refine hK _ ?_; clear hK K)
   refine wpCan_eff rfl ?_
   refine wpList_do rfl (fun K hK => ?_)
   go_simp
   refine HCOV.out.mono ?_
   rintro e4 w4 ⟨rfl, hk4⟩
   have HS8 := Lib.hid (HS7.out.drew.kept hk4)
   clear hk4 HS7 HCOV HLH HLC c0 c1 c2 c3 c4 c5 cf
   obtain ⟨hv, wv, hs, ws, hr1, hr2, h3⟩ := queOpen_C HS8.out
   obtain ⟨c0, c1, c2, c3, c4, c5, cf⟩ := cells6 (h3.blk 0 rfl)
   clear hr1 hr2 h3
   have HLH := Lib.hid (loadCl (blk_range (HS8.out.blk 1 rfl)))
   have HLC := Lib.hid (loadCl (blk_range (HS8.out.blk 3 rfl)))
   refine hK _ _ ?_
   clear hK K
   refine wpList_nil ?_
   refine And.intro ?_ ?_
   ·go_simp
   refine wpCan_nil ?_
   go_upto_region 10 with fail
   have HJN := Lib.hid (join_C (HD0.out) HXOK.out HC.out (by rw [HXE.out]; exact HQS.out x0 (List.mem_of_getElem? HX0.out)) HSM.out HS8.out.drew)
   rw [HXE.out] at HJN
   clear HLH HLC
   have HLH := Lib.hid (loadCl (w := w4.drew) (blk_range (HS8.out.drew.blk 1 rfl)))
   have HLC := Lib.hid (loadCl (w := w4.drew) (blk_range (HS8.out.drew.blk 3 rfl)))
   refine wp_region_canon [(0, false, 7), (1, false, 7), (2, false, 7), (3, false, 7), (4, false, 7), (5, false, 7), (6, false, 7), (7, true, 0), (8, false, 9), (9, true, 0), (10, false, 11), (11, true, 0)] (by kernel_rfl) (by kernel_rfl) ?_
   iterate 7 (refine wpCan_read rfl rfl (fun K hK => ?_); (first | ((refine still_ld _ _ rfl _ _ rfl _ HLH.out ?_); go_simp) | ((refine still_ld _ _ rfl _ _ rfl _ HLC.out ?_); go_simp) | go_simp); refine hK _ ?_; clear hK K)
   refine wpCan_eff rfl ?_
   refine wpList_do rfl (fun K hK => ?_)
   go_simp
   refine HJN.out.mono ?_
   rintro e5 w5 ⟨z, D5, rfl, hzc, hle5, hok5, hs5⟩
   have HZC := Lib.hid hzc
   have HLEX := Lib.hid hle5
   have HOKZ := Lib.hid hok5
   have HS5 := Lib.hid (show Sat B D5 w5 (blk bz (cellsC (mkC o c false)).toArray tEnC :: queC D5 q Q :: blk bc c.cells.toArray tCl :: l) from ((que_mono_C hs5 hle5).swap.drop).swap)
   clear hzc hle5 hok5 hs5 HJN HLH HLC HS8 c0 c1 c2 c3 c4 c5 cf
   refine hK _ _ ?_
   clear hK K
   refine wpList_nil ?_
   refine And.intro ?_ ?_
   ·go_simp
   iterate 1 (refine wpCan_read rfl rfl (fun K hK => ?_); (first | ((refine still_ld _ _ rfl _ _ rfl _ HLH.out ?_); go_simp) | ((refine still_ld _ _ rfl _ _ rfl _ HLC.out ?_); go_simp) | go_simp); refine hK _ ?_; clear hK K)
   refine wpCan_eff rfl ?_
   refine wpList_store_at rfl _ _ _ rfl tEnC bz 1 rfl z.cells rfl (cellsC (mkC o c false)) HS5.out (by kernel_rfl) (by rw [lenC, ClmE.len]; decide) (ClmE.one z) ?_
   intro w6 hs6
   rw [entC_setC] at hs6
   have z17 := (boxC (hs6.blk 0 rfl)).2
   have zf := frz (hs6.blk 0 rfl)
   have HS6 := Lib.hid (Sat.setMore hs6 true)
   clear hs6 HS5
   refine wpList_nil ?_
   refine And.intro ?_ ?_
   ·go_simp
   iterate 1 (refine wpCan_read rfl rfl (fun K hK => ?_); (first | ((refine still_ld _ _ rfl _ _ rfl _ HLH.out ?_); go_simp) | ((refine still_ld _ _ rfl _ _ rfl _ HLC.out ?_); go_simp) | go_simp); refine hK _ ?_; clear hK K)
   refine wpCan_eff rfl ?_
   refine wpList_plain rfl (fun K hK => ?_)
   go_simp
   refine hK _ _ ?_
   clear hK K
   refine wpList_nil ?_
   refine And.intro ?_ ?_
   ·go_simp
   refine wpCan_nil ?_
   obtain ⟨W9, hW9, hs9⟩ := Sat.hide HS6.out
   (try rw [← hW9])
   clear hW9 HS6
   obtain ⟨en, hen⟩ : ∃ en : EntE, en = mkC o z true := ⟨_, rfl⟩
   have HGO := Lib.hid (show ∀ b, askQ RC Q o (cdC c) b = if freeE RC Q o (entC en).c (Q.waits.take (moresN Q.waits)) then (giveQ RC Q (entC en), true) else if b then (⟨Q.held, Q.waits.take (moresN Q.waits) ++ [entC en] ++ Q.waits.drop (moresN Q.waits)⟩, false) else (Q, false) from fun b => askQ_go (e := entC en) HWN.out (by rw [hen, HFOR.out, show entC (mkC o z true) = ⟨o, z.c, true⟩ from rfl, HZC.out]))
   have HENO := Lib.hid (show en.o = o by rw [hen])
   have HOK := Lib.hid (show OkC D5 en by rw [hen]; exact HOKZ.out)
   have HD := Lib.hid (HD0.out.mono HLEX.out)
   have HS9 := Lib.hid (show Sat B D5 W9 (queC D5 q Q :: blk bz (cellsC en).toArray tEnC :: blk bc c.cells.toArray tCl :: l) from by rw [hen]; exact hs9.swap)
   clear hs9 HFOR hen
   go_upto_region 12 with (go_at_call 134; refine (mores_C HS9.out).mono ?_; rintro e6 w6 ⟨rfl, rfl⟩)
   have hat0 : moresN Q.waits ≤ Q.waits.length := moresN_le _
   generalize moresN Q.waits = at_ at *
   have HS5 := Lib.hid HS9.out
   clear HS9
   cases hf : freeE RC Q o (entC en).c (Q.waits.take at_)
   ·have HF := Lib.hid hf
    cases b
    ·have HASK := Lib.hid (show askQ RC Q o (cdC c) false = (Q, false) by rw [HGO.out false, hf]; simp)
     clear hf
     (try go_upto_region 12 with fail)
     obtain ⟨hv, wv, hs, ws, hr1, hr2, h2⟩ := queOpen_C HS5.out.drew
     obtain ⟨wa, wc, rfl⟩ := (h2.front 2 rfl).own_shape
     have hwl : ws.length = Q.waits.length := by rw [← hr2.1, List.length_map]
     have hat : at_ ≤ ws.length := by omega
     have HRD := Lib.hid (Rd.takeE lenC (h2.own 2 rfl).rd (m := at_) hat rfl)
     have HWOK := Lib.hid (fun (x : EntE) (hx : x ∈ ws.take at_) => (hr2.2 x (List.mem_of_mem_take hx) : ClOk D5 x.x))
     have HTK := Lib.hid (show (ws.take at_).map entC = Q.waits.take at_ by rw [List.map_take, hr2.1])
     have HL := Lib.hid (loadC (blk_range (h2.blk 3 rfl)))
     obtain ⟨c0, c1, c2, c3, c4, c5, cf⟩ := cells6 (h2.blk 0 rfl)
     have hws : ws.length ≤ wc := by obtain ⟨_, _, _, _, hx, hy, _⟩ := (h2.own 2 rfl).rd; cases hx; exact hy
     have hb1 : (at_ : Int) ≤ (wc : Int) := by omega
     have hmap : Option.map (fun x => Addr.add x 0) wa = wa := by rcases (h2.own 2 rfl).2.2 with ⟨hx, _⟩ | ⟨g, c2, cur, hx, _⟩ <;> rw [(Value.slice.inj hx).1] <;> first | rfl | simp [add_none]
     generalize hN : ws.length = N at *
     clear hr1 hr2 h2 hwl hN hws
     refine wp_region_canon [(0, false, 8), (1, false, 8), (2, false, 8), (3, false, 8), (4, false, 8), (5, false, 8), (6, false, 8), (7, false, 8), (8, true, 0)] (by kernel_rfl) (by kernel_rfl) ?_
     iterate 8 (refine wpCan_read rfl rfl (fun K hK => ?_); (first | ((refine still_ld _ _ rfl _ _ rfl _ HL.out ?_); go_simp) | go_simp); refine hK _ ?_; clear hK K)
     refine wpCan_eff rfl ?_
     refine wpList_do rfl (fun K hK => ?_)
     go_simp
     refine (free_C en (HD.out.env HS5.out.drew) (PH.le.refl _) HOK.out HWOK.out HRD.out HS5.out.drew).mono ?_
     rw [HTK.out, HENO.out, HF.out]
     rintro e6 w6 ⟨rfl, hk6⟩
     have HS6 := Lib.hid (HS5.out.drew.kept hk6)
     clear hk6 HS5 HL HRD HWOK c0 c1 c2 c3 c4 c5 cf hb1 hmap HTK HF
     refine hK _ _ ?_
     clear hK K
     refine wpList_nil ?_
     refine And.intro ?_ ?_
     ·go_simp
     refine wpCan_nil ?_
     go_wp2_with fail
     go_ret
     rw [HASK.out]
     exact ⟨D5, rfl, HLEX.out, HS6.out.swap.drop.swap.drop⟩
    ·have HASK := Lib.hid (show askQ RC Q o (cdC c) true = (⟨Q.held, Q.waits.take at_ ++ [entC en] ++ Q.waits.drop at_⟩, false) by rw [HGO.out true, hf]; simp)
     clear hf
     (try go_upto_region 12 with fail)
     obtain ⟨hv, wv, hs, ws, hr1, hr2, h2⟩ := queOpen_C HS5.out.drew
     obtain ⟨wa, wc, rfl⟩ := (h2.front 2 rfl).own_shape
     have hwl : ws.length = Q.waits.length := by rw [← hr2.1, List.length_map]
     have hat : at_ ≤ ws.length := by omega
     have HRD := Lib.hid (Rd.takeE lenC (h2.own 2 rfl).rd (m := at_) hat rfl)
     have HWOK := Lib.hid (fun (x : EntE) (hx : x ∈ ws.take at_) => (hr2.2 x (List.mem_of_mem_take hx) : ClOk D5 x.x))
     have HTK := Lib.hid (show (ws.take at_).map entC = Q.waits.take at_ by rw [List.map_take, hr2.1])
     have HL := Lib.hid (loadC (blk_range (h2.blk 3 rfl)))
     obtain ⟨c0, c1, c2, c3, c4, c5, cf⟩ := cells6 (h2.blk 0 rfl)
     have hws : ws.length ≤ wc := by obtain ⟨_, _, _, _, hx, hy, _⟩ := (h2.own 2 rfl).rd; cases hx; exact hy
     have hb1 : (at_ : Int) ≤ (wc : Int) := by omega
     have hmap : Option.map (fun x => Addr.add x 0) wa = wa := by rcases (h2.own 2 rfl).2.2 with ⟨hx, _⟩ | ⟨g, c2, cur, hx, _⟩ <;> rw [(Value.slice.inj hx).1] <;> first | rfl | simp [add_none]
     generalize hN : ws.length = N at *
     clear hr1 hr2 h2 hwl hN hws
     refine wp_region_canon [(0, false, 8), (1, false, 8), (2, false, 8), (3, false, 8), (4, false, 8), (5, false, 8), (6, false, 8), (7, false, 8), (8, true, 0)] (by kernel_rfl) (by kernel_rfl) ?_
     iterate 8 (refine wpCan_read rfl rfl (fun K hK => ?_); (first | ((refine still_ld _ _ rfl _ _ rfl _ HL.out ?_); go_simp) | go_simp); refine hK _ ?_; clear hK K)
     refine wpCan_eff rfl ?_
     refine wpList_do rfl (fun K hK => ?_)
     go_simp
     refine (free_C en (HD.out.env HS5.out.drew) (PH.le.refl _) HOK.out HWOK.out HRD.out HS5.out.drew).mono ?_
     rw [HTK.out, HENO.out, HF.out]
     rintro e6 w6 ⟨rfl, hk6⟩
     have HS6 := Lib.hid (HS5.out.drew.kept hk6)
     clear hk6 HS5 HL HRD HWOK c0 c1 c2 c3 c4 c5 cf hb1 hmap HTK HF
     refine hK _ _ ?_
     clear hK K
     refine wpList_nil ?_
     refine And.intro ?_ ?_
     ·go_simp
     refine wpCan_nil ?_
     obtain ⟨hv, wv, hs, ws, hr1, hr2, h2⟩ := queOpen_C HS6.out
     obtain ⟨wa, wc, rfl⟩ := (h2.front 2 rfl).own_shape
     have hwl : ws.length = Q.waits.length := by rw [← hr2.1, List.length_map]
     have HL := Lib.hid (loadC (blk_range (h2.drew.blk 3 rfl)))
     obtain ⟨c0, c1, c2, c3, c4, c5, cf⟩ := cells6 (h2.blk 0 rfl)
     have HR1 := Lib.hid hr1
     have HR2 := Lib.hid hr2
     have hNb : ws.length ≤ 100000 := by omega
     have hat : at_ ≤ ws.length := by omega
     have HS7 := Lib.hid (show Sat B D5 w6 (qbC q hv (.slice wa ws.length wc) :: entsC hv hs :: ownS tEnC 18 (.slice wa ws.length wc) ws.length (ws.flatMap cellsC) :: blk bz (cellsC en).toArray tEnC :: blk bc c.cells.toArray tCl :: l) from h2)
     generalize hN : ws.length = N at *
     have HN := Lib.hid hN
     clear hr1 hr2 h2 hwl hN HS6
     go_upto_region 16 with fail
     refine wp_region_canon [(0, false, 11), (1, false, 8), (2, false, 8), (3, false, 8), (4, false, 8), (5, false, 8), (6, false, 7), (7, true, 0), (8, true, 0), (9, false, 11), (10, false, 11), (11, true, 0)] (by kernel_rfl) (by kernel_rfl) ?_
     iterate 7 (refine wpCan_read rfl rfl (fun K hK => ?_); (first | ((refine still_ld _ _ rfl _ _ rfl _ HL.out ?_); go_simp) | go_simp); refine hK _ ?_; clear hK K)
     refine wpCan_eff rfl ?_
     refine wpList_build_one rfl _ _ rfl tEnC i0 _ (cellsC en) rfl Tryz.underlying108 HI.out.1 HI.out.2.1 (HI.out.2.2.1.trans rfl) (by rw [lenC]; decide) (by rw [lenC]; decide) ?_
     refine wpList_nil ?_
     obtain ⟨W8, hW8, hs8⟩ := Sat.hide (HS7.out.drew.alloc (cellsC en).toArray tEnC)
     rw [← hW8]
     clear hW8 HS7 HL c0 c1 c2 c3 c4 c5 cf
     generalize w6.drew.heap.size = by_ at hs8 ⊢
     obtain ⟨c0, c1, c2, c3, c4, c5, cf⟩ := cells6 (hs8.blk 1 rfl)
     have HS8 := Lib.hid (show Sat B D5 W8 (ownS tEnC 18 (.slice wa N wc) N (ws.flatMap cellsC) :: blk by_ (cellsC en).toArray tEnC :: qbC q hv (.slice wa N wc) :: entsC hv hs :: blk bz (cellsC en).toArray tEnC :: blk bc c.cells.toArray tCl :: l) from hs8.front 3 rfl)
     clear hs8
     refine And.intro ?_ ?_
     ·go_simp
     refine wpCan_eff rfl ?_
     refine wpList_do rfl (fun K hK => ?_)
     go_simp
     refine (insert_C (i := at_) hat (lenC en) (oneC en) by_ (by omega) HS8.out).mono ?_
     rintro e9 w9 ⟨v9, rfl, hs9⟩
     rw [flat_ins lenC] at hs9
     obtain ⟨va, vc, rfl⟩ := hs9.own_shape
     clear c0 c1 c2 c3 c4 c5 cf HS8
     obtain ⟨c0, c1, c2, c3, c4, c5, cf⟩ := cells6 (hs9.blk 2 rfl)
     have HS9 := Lib.hid (Sat.set6 (hs9.front 2 rfl) (.slice va (N + 1) vc))
     clear hs9
     refine hK _ _ ?_
     clear hK K
     refine wpList_nil ?_
     refine And.intro ?_ ?_
     ·go_simp
     iterate 2 (refine wpCan_read rfl rfl (fun K hK => ?_); (first | ((refine still_ld _ _ rfl _ _ rfl _ HL.out ?_); go_simp) | go_simp); refine hK _ ?_; clear hK K)
     refine wpCan_eff rfl ?_
     refine wpList_plain rfl (fun K hK => ?_)
     go_simp
     refine hK _ _ ?_
     clear hK K
     refine wpList_nil ?_
     refine And.intro ?_ ?_
     ·go_simp
     refine wpCan_nil ?_
     go_wp2_with fail
     go_ret
     rw [HASK.out]
     refine ⟨D5, rfl, HLEX.out, ?_⟩
     have h7 := (HS9.out.front 2 rfl).drop
     have h8 : Sat B D5 (w9.setCell ⟨q, 5, none⟩ (.slice va (N + 1) vc)) (qbC q hv (.slice va (N + 1) vc) :: entsC hv hs :: entsC (.slice va (N + 1) vc) (ws.take at_ ++ [en] ++ ws.drop at_) :: blk bz (cellsC en).toArray tEnC :: blk bc c.cells.toArray tCl :: l) := by
      show Sat B D5 _ (qbC q _ _ :: entsC hv hs :: ownS tEnC 18 _ (ws.take at_ ++ [en] ++ ws.drop at_).length _ :: _)
      rw [show (ws.take at_ ++ [en] ++ ws.drop at_).length = N + 1 by simp [HN.out]; omega]
      exact (h7.swap.front 2 rfl).rot.rot
     refine (queShut_C (Q := ⟨Q.held, Q.waits.take at_ ++ [entC en] ++ Q.waits.drop at_⟩) HR1.out ⟨?_, ?_⟩ h8).swap.drop.swap.drop
     ·rw [List.map_append, List.map_append, List.map_take, List.map_drop, HR2.out.1]
      rfl
     ·intro x hx
      rcases List.mem_append.1 hx with hx | hx
      ·rcases List.mem_append.1 hx with hx | hx
       ·exact HR2.out.2 x (List.mem_of_mem_take hx)
       ·obtain rfl := List.mem_singleton.1 hx
        exact HOK.out
      ·exact HR2.out.2 x (List.mem_of_mem_drop hx)
   ·have HF := Lib.hid hf
    have HASK := Lib.hid (show askQ RC Q o (cdC c) b = (giveQ RC Q (entC en), true) by rw [HGO.out b, hf]; simp)
    clear hf
    (try go_upto_region 12 with fail)
    obtain ⟨hv, wv, hs, ws, hr1, hr2, h2⟩ := queOpen_C HS5.out.drew
    obtain ⟨wa, wc, rfl⟩ := (h2.front 2 rfl).own_shape
    have hwl : ws.length = Q.waits.length := by rw [← hr2.1, List.length_map]
    have hat : at_ ≤ ws.length := by omega
    have HRD := Lib.hid (Rd.takeE lenC (h2.own 2 rfl).rd (m := at_) hat rfl)
    have HWOK := Lib.hid (fun (x : EntE) (hx : x ∈ ws.take at_) => (hr2.2 x (List.mem_of_mem_take hx) : ClOk D5 x.x))
    have HTK := Lib.hid (show (ws.take at_).map entC = Q.waits.take at_ by rw [List.map_take, hr2.1])
    have HL := Lib.hid (loadC (blk_range (h2.blk 3 rfl)))
    obtain ⟨c0, c1, c2, c3, c4, c5, cf⟩ := cells6 (h2.blk 0 rfl)
    have hws : ws.length ≤ wc := by obtain ⟨_, _, _, _, hx, hy, _⟩ := (h2.own 2 rfl).rd; cases hx; exact hy
    have hb1 : (at_ : Int) ≤ (wc : Int) := by omega
    have hmap : Option.map (fun x => Addr.add x 0) wa = wa := by rcases (h2.own 2 rfl).2.2 with ⟨hx, _⟩ | ⟨g, c2, cur, hx, _⟩ <;> rw [(Value.slice.inj hx).1] <;> first | rfl | simp [add_none]
    generalize hN : ws.length = N at *
    clear hr1 hr2 h2 hwl hN hws
    refine wp_region_canon [(0, false, 8), (1, false, 8), (2, false, 8), (3, false, 8), (4, false, 8), (5, false, 8), (6, false, 8), (7, false, 8), (8, true, 0)] (by kernel_rfl) (by kernel_rfl) ?_
    iterate 8 (refine wpCan_read rfl rfl (fun K hK => ?_); (first | ((refine still_ld _ _ rfl _ _ rfl _ HL.out ?_); go_simp) | go_simp); refine hK _ ?_; clear hK K)
    refine wpCan_eff rfl ?_
    refine wpList_do rfl (fun K hK => ?_)
    go_simp
    refine (free_C en (HD.out.env HS5.out.drew) (PH.le.refl _) HOK.out HWOK.out HRD.out HS5.out.drew).mono ?_
    rw [HTK.out, HENO.out, HF.out]
    rintro e6 w6 ⟨rfl, hk6⟩
    have HS6 := Lib.hid (HS5.out.drew.kept hk6)
    clear hk6 HS5 HL HRD HWOK c0 c1 c2 c3 c4 c5 cf hb1 hmap HTK HF
    refine hK _ _ ?_
    clear hK K
    refine wpList_nil ?_
    refine And.intro ?_ ?_
    ·go_simp
    refine wpCan_nil ?_
    have HL := Lib.hid (loadC (blk_range (HS6.out.blk 1 rfl)))
    go_wp2_with (first | (refine wpList_ld rfl _ _ rfl _ _ rfl _ HL.out ?_) | (go_at_call 136; refine (give_C en hh (PH.le.refl _) HOK.out HS6.out).mono ?_; rintro e7 w7 ⟨rfl, hs7⟩; have HS7 := Lib.hid hs7; clear hs7 HS6 HL))
    go_ret
    rw [HASK.out]
    exact ⟨D5, rfl, HLEX.out, HS7.out.swap.drop.swap.drop⟩

  ·have HASK := Lib.hid (show askQ RC Q o (cdC c) b = (Q, true) by unfold askQ askFor; rw [HWN.out]; simp only [HO.out, HX0.out, hcv]; simp)
   have HCV := Lib.hid hcv
   clear hcv
   go_enter Tryz.func87, Tryz.ntmps87
   go_upto_region 1 with fail
   rw [← HW0.out]
   clear HW0
   generalize w.heap.size = bc at *
   go_upto_region 3 with (go_at_call 82; refine HW.out.mono ?_; rintro e1 w1 ⟨rfl, hk1⟩; have HS1 := Lib.hid (HS.out.kept hk1); clear hk1 HS HW)
   have HLC := Lib.hid (loadCl (blk_range (HS1.out.blk 1 rfl)))
   have HS2 := Lib.hid (HS1.out.alloc (cellsC (mkC o c false)).toArray tEnC)
   clear HS1
   go_upto_region 4 with (first | (refine wpList_ld rfl _ _ rfl _ _ rfl _ HLC.out ?_) | (refine wpList_build_ent rfl _ _ rfl o c rfl rfl ?_) | (refine wpList_store_new rfl _ _ _ rfl (cellsC (mkC o c false)) _ _ rfl rfl (by kernel_rfl) rfl (oneC _) ?_))
   clear HLC
   obtain ⟨W2, hW2, hs2⟩ := Sat.hide HS2.out
   rw [← hW2]
   clear hW2 HS2
   generalize w1.heap.size = bz at hs2 ⊢
   have HS2 := Lib.hid hs2.swap
   have HLC := Lib.hid (loadCl (blk_range (hs2.blk 2 rfl)))
   obtain ⟨hv, wv, hs, ws, hr1, hr2, h2⟩ := queOpen_C hs2.swap
   obtain ⟨wa, wc, rfl⟩ := (h2.front 2 rfl).own_shape
   obtain ⟨c0, c1, c2, c3, c4, c5, cf⟩ := cells6 (h2.blk 0 rfl)
   generalize ws.length = nw at c5
   clear hs2 h2 hr1 hr2
   go_upto_region 6 with (first | (refine wpList_ld rfl _ _ rfl _ _ rfl _ HLC.out ?_) | (go_at_call 133; refine (own_C o c (PH.le.refl _) HC.out HS2.out).mono ?_; rw [HK.out]; rintro e3 w3 ⟨rfl, hk3⟩; have HS6 := Lib.hid (HS2.out.kept hk3); clear hk3 HS2 HLC c0 c1 c2 c3 c4 c5 cf))
   obtain ⟨hv, wv, hs, ws, hr1, hr2, h1⟩ := queOpen_C HS6.out
   obtain ⟨x, hx, hxe⟩ : ∃ x, hs[k]? = some x ∧ entC x = x0 := by
    have hx0 := HX0.out
    rw [← hr1.1, List.getElem?_map] at hx0
    cases hxx : hs[k]? with
    | none => rw [hxx] at hx0; cases hx0
    | some x => rw [hxx] at hx0; exact ⟨x, rfl, Option.some.inj hx0⟩
   have HXE := Lib.hid (show x.x.c = x0.c by rw [← hxe])
   have HXOK := Lib.hid (show ClOk D x.x from hr1.2 x (List.mem_of_getElem? hx))
   obtain ⟨ha, hcp, rfl⟩ := (h1.front 1 rfl).own_shape
   obtain ⟨g, og, rfl, hrng⟩ := elem_range lenC (h1.own 1 rfl).rd hx rfl
   have HLH := Lib.hid (loadCl (rangeCl hrng))
   obtain ⟨c0, c1, c2, c3, c4, c5, cf⟩ := cells6 (h1.blk 0 rfl)
   have hkl : (k : Int) < (hs.length : Int) := by have := (List.getElem?_eq_some_iff.1 hx).1; omega
   generalize hs.length = nh at c4 hkl
   clear hr1 hr2 h1 hx hxe hrng
   have HS7 := Lib.hid ((HS6.out.alloc x.x.cells.toArray tCl).swap)
   go_upto_region 8 with (first | (refine wpList_ld rfl _ _ rfl _ _ rfl _ HLH.out ?_) | (refine wpList_store_new rfl _ _ _ rfl x.x.cells _ _ rfl rfl (by kernel_rfl) rfl (ClmE.one _) ?_))
   clear HLH HS6 c0 c1 c2 c3 c4 c5 cf
   obtain ⟨W7, hW7, hs7⟩ := Sat.hide HS7.out
   rw [← hW7]
   clear hW7 HS7
   generalize w3.heap.size = bh at hs7 ⊢
   have HS7 := Lib.hid (show Sat B D W7 (queC D q Q :: blk bh x.x.cells.toArray tCl :: blk bz (cellsC (mkC o c false)).toArray tEnC :: blk bc c.cells.toArray tCl :: l) from hs7)
   clear hs7
   obtain ⟨hv, wv, hs, ws, hr1, hr2, h3⟩ := queOpen_C HS7.out
   obtain ⟨c0, c1, c2, c3, c4, c5, cf⟩ := cells6 (h3.blk 0 rfl)
   clear hr1 hr2 h3
   have HLH := Lib.hid (loadCl (w := W7.drew) (blk_range (HS7.out.drew.blk 1 rfl)))
   have HLC := Lib.hid (loadCl (w := W7.drew) (blk_range (HS7.out.drew.blk 3 rfl)))
   have HCOV := Lib.hid (cov_C (HD0.out.env HS7.out.drew) (HXOK.out.rd HS7.out.drew) (HC.out.rd HS7.out.drew))
   rw [HXE.out, HCV.out] at HCOV
   refine wp_region_canon [(0, false, 7), (1, false, 7), (2, false, 7), (3, false, 7), (4, false, 7), (5, false, 7), (6, false, 7), (7, true, 0)] (by kernel_rfl) (by kernel_rfl) ?_
   iterate 7 (refine wpCan_read rfl rfl (fun K hK => ?_); (first | ((refine still_ld _ _ rfl _ _ rfl _ HLH.out ?_); go_simp) | ((refine still_ld _ _ rfl _ _ rfl _ HLC.out ?_); go_simp) | go_simp); refine hK _ ?_; clear hK K)
   refine wpCan_eff rfl ?_
   refine wpList_do rfl (fun K hK => ?_)
   go_simp
   refine HCOV.out.mono ?_
   rintro e4 w4 ⟨rfl, hk4⟩
   have HS8 := Lib.hid (HS7.out.drew.kept hk4)
   clear hk4 HS7 HCOV HLH HLC c0 c1 c2 c3 c4 c5 cf
   obtain ⟨hv, wv, hs, ws, hr1, hr2, h3⟩ := queOpen_C HS8.out
   obtain ⟨c0, c1, c2, c3, c4, c5, cf⟩ := cells6 (h3.blk 0 rfl)
   clear hr1 hr2 h3
   have HLH := Lib.hid (loadCl (blk_range (HS8.out.blk 1 rfl)))
   have HLC := Lib.hid (loadCl (blk_range (HS8.out.blk 3 rfl)))
   refine hK _ _ ?_
   clear hK K
   refine wpList_nil ?_
   refine And.intro ?_ ?_
   ·go_simp
   refine wpCan_nil ?_
   go_wp2_with fail
   go_ret
   rw [HASK.out]
   exact ⟨D, rfl, PH.le.refl _, HS8.out.swap.drop.swap.drop.swap.drop⟩
 ·have HFOR := Lib.hid (show askFor RC Q o (cdC c) = some (⟨o, cdC c, false⟩, Q.waits.length) by unfold askFor; rw [ho])
  have HOWN := Lib.hid hk
  clear ho hk
  obtain ⟨at_, hat_⟩ : ∃ n, n = Q.waits.length := ⟨_, rfl⟩
  rw [← hat_] at HFOR
  have hat0 : at_ ≤ Q.waits.length := by omega
  have HAT := Lib.hid hat_
  clear hat_
  go_enter Tryz.func87, Tryz.ntmps87
  go_upto_region 1 with fail
  rw [← HW0.out]
  clear HW0
  generalize w.heap.size = bc at *
  go_upto_region 3 with (go_at_call 82; refine HW.out.mono ?_; rintro e1 w1 ⟨rfl, hk1⟩; have HS1 := Lib.hid (HS.out.kept hk1); clear hk1 HS HW)
  have HLC := Lib.hid (loadCl (blk_range (HS1.out.blk 1 rfl)))
  have HS2 := Lib.hid (HS1.out.alloc (cellsC (mkC o c false)).toArray tEnC)
  clear HS1
  go_upto_region 4 with (first | (refine wpList_ld rfl _ _ rfl _ _ rfl _ HLC.out ?_) | (refine wpList_build_ent rfl _ _ rfl o c rfl rfl ?_) | (refine wpList_store_new rfl _ _ _ rfl (cellsC (mkC o c false)) _ _ rfl rfl (by kernel_rfl) rfl (oneC _) ?_))
  clear HLC
  obtain ⟨W2, hW2, hs2⟩ := Sat.hide HS2.out
  rw [← hW2]
  clear hW2 HS2
  generalize w1.heap.size = bz at hs2 ⊢
  have HS2 := Lib.hid hs2.swap
  have HLC := Lib.hid (loadCl (blk_range (hs2.blk 2 rfl)))
  obtain ⟨hv, wv, hs, ws, hr1, hr2, h2⟩ := queOpen_C hs2.swap
  obtain ⟨wa, wc, rfl⟩ := (h2.front 2 rfl).own_shape
  have hwl : ws.length = at_ := by rw [← List.length_map (f := entC), hr2.1, HAT.out]
  obtain ⟨c0, c1, c2, c3, c4, c5, cf⟩ := cells6 (h2.blk 0 rfl)
  rw [hwl] at c5
  clear hs2 h2 hr1 hr2 hwl
  go_upto_region 6 with (first | (refine wpList_ld rfl _ _ rfl _ _ rfl _ HLC.out ?_) | (go_at_call 133; refine (own_C o c (PH.le.refl _) HC.out HS2.out).mono ?_; rw [HOWN.out]; rintro e3 w3 ⟨rfl, hk3⟩; have HS5 := Lib.hid (HS2.out.kept hk3); clear hk3 HS2 HLC c0 c1 c2 c3 c4 c5 cf))
  obtain ⟨en, hen⟩ : ∃ en : EntE, en = mkC o c false := ⟨_, rfl⟩
  have HENO := Lib.hid (show en.o = o by rw [hen])
  have HOK := Lib.hid (show OkC D en by rw [hen]; exact HC.out)
  have HD := Lib.hid HD0.out
  have HLEX := Lib.hid (PH.le.refl D)
  have HGO := Lib.hid (show ∀ b, askQ RC Q o (cdC c) b = _ from fun b => askQ_go (b := b) (e := entC en) HWN.out (by rw [hen, HFOR.out]))
  have hs5 := HS5.out
  rw [← hen] at hs5
  clear HS5 hen HFOR
  have HS5 := Lib.hid hs5
  clear hs5
  cases hf : freeE RC Q o (entC en).c (Q.waits.take at_)
  ·have HF := Lib.hid hf
   cases b
   ·have HASK := Lib.hid (show askQ RC Q o (cdC c) false = (Q, false) by rw [HGO.out false, hf]; simp)
    clear hf
    (try go_upto_region 12 with fail)
    obtain ⟨hv, wv, hs, ws, hr1, hr2, h2⟩ := queOpen_C HS5.out.drew
    obtain ⟨wa, wc, rfl⟩ := (h2.front 2 rfl).own_shape
    have hwl : ws.length = Q.waits.length := by rw [← hr2.1, List.length_map]
    have hat : at_ ≤ ws.length := by omega
    have HRD := Lib.hid (Rd.takeE lenC (h2.own 2 rfl).rd (m := at_) hat rfl)
    have HWOK := Lib.hid (fun (x : EntE) (hx : x ∈ ws.take at_) => (hr2.2 x (List.mem_of_mem_take hx) : ClOk D x.x))
    have HTK := Lib.hid (show (ws.take at_).map entC = Q.waits.take at_ by rw [List.map_take, hr2.1])
    have HL := Lib.hid (loadC (blk_range (h2.blk 3 rfl)))
    obtain ⟨c0, c1, c2, c3, c4, c5, cf⟩ := cells6 (h2.blk 0 rfl)
    have hws : ws.length ≤ wc := by obtain ⟨_, _, _, _, hx, hy, _⟩ := (h2.own 2 rfl).rd; cases hx; exact hy
    have hb1 : (at_ : Int) ≤ (wc : Int) := by omega
    have hmap : Option.map (fun x => Addr.add x 0) wa = wa := by rcases (h2.own 2 rfl).2.2 with ⟨hx, _⟩ | ⟨g, c2, cur, hx, _⟩ <;> rw [(Value.slice.inj hx).1] <;> first | rfl | simp [add_none]
    generalize hN : ws.length = N at *
    clear hr1 hr2 h2 hwl hN hws
    refine wp_region_canon [(0, false, 8), (1, false, 8), (2, false, 8), (3, false, 8), (4, false, 8), (5, false, 8), (6, false, 8), (7, false, 8), (8, true, 0)] (by kernel_rfl) (by kernel_rfl) ?_
    iterate 8 (refine wpCan_read rfl rfl (fun K hK => ?_); (first | ((refine still_ld _ _ rfl _ _ rfl _ HL.out ?_); go_simp) | go_simp); refine hK _ ?_; clear hK K)
    refine wpCan_eff rfl ?_
    refine wpList_do rfl (fun K hK => ?_)
    go_simp
    refine (free_C en (HD.out.env HS5.out.drew) (PH.le.refl _) HOK.out HWOK.out HRD.out HS5.out.drew).mono ?_
    rw [HTK.out, HENO.out, HF.out]
    rintro e6 w6 ⟨rfl, hk6⟩
    have HS6 := Lib.hid (HS5.out.drew.kept hk6)
    clear hk6 HS5 HL HRD HWOK c0 c1 c2 c3 c4 c5 cf hb1 hmap HTK HF
    refine hK _ _ ?_
    clear hK K
    refine wpList_nil ?_
    refine And.intro ?_ ?_
    ·go_simp
    refine wpCan_nil ?_
    go_wp2_with fail
    go_ret
    rw [HASK.out]
    exact ⟨D, rfl, HLEX.out, HS6.out.swap.drop.swap.drop⟩
   ·have HASK := Lib.hid (show askQ RC Q o (cdC c) true = (⟨Q.held, Q.waits.take at_ ++ [entC en] ++ Q.waits.drop at_⟩, false) by rw [HGO.out true, hf]; simp)
    clear hf
    (try go_upto_region 12 with fail)
    obtain ⟨hv, wv, hs, ws, hr1, hr2, h2⟩ := queOpen_C HS5.out.drew
    obtain ⟨wa, wc, rfl⟩ := (h2.front 2 rfl).own_shape
    have hwl : ws.length = Q.waits.length := by rw [← hr2.1, List.length_map]
    have hat : at_ ≤ ws.length := by omega
    have HRD := Lib.hid (Rd.takeE lenC (h2.own 2 rfl).rd (m := at_) hat rfl)
    have HWOK := Lib.hid (fun (x : EntE) (hx : x ∈ ws.take at_) => (hr2.2 x (List.mem_of_mem_take hx) : ClOk D x.x))
    have HTK := Lib.hid (show (ws.take at_).map entC = Q.waits.take at_ by rw [List.map_take, hr2.1])
    have HL := Lib.hid (loadC (blk_range (h2.blk 3 rfl)))
    obtain ⟨c0, c1, c2, c3, c4, c5, cf⟩ := cells6 (h2.blk 0 rfl)
    have hws : ws.length ≤ wc := by obtain ⟨_, _, _, _, hx, hy, _⟩ := (h2.own 2 rfl).rd; cases hx; exact hy
    have hb1 : (at_ : Int) ≤ (wc : Int) := by omega
    have hmap : Option.map (fun x => Addr.add x 0) wa = wa := by rcases (h2.own 2 rfl).2.2 with ⟨hx, _⟩ | ⟨g, c2, cur, hx, _⟩ <;> rw [(Value.slice.inj hx).1] <;> first | rfl | simp [add_none]
    generalize hN : ws.length = N at *
    clear hr1 hr2 h2 hwl hN hws
    refine wp_region_canon [(0, false, 8), (1, false, 8), (2, false, 8), (3, false, 8), (4, false, 8), (5, false, 8), (6, false, 8), (7, false, 8), (8, true, 0)] (by kernel_rfl) (by kernel_rfl) ?_
    iterate 8 (refine wpCan_read rfl rfl (fun K hK => ?_); (first | ((refine still_ld _ _ rfl _ _ rfl _ HL.out ?_); go_simp) | go_simp); refine hK _ ?_; clear hK K)
    refine wpCan_eff rfl ?_
    refine wpList_do rfl (fun K hK => ?_)
    go_simp
    refine (free_C en (HD.out.env HS5.out.drew) (PH.le.refl _) HOK.out HWOK.out HRD.out HS5.out.drew).mono ?_
    rw [HTK.out, HENO.out, HF.out]
    rintro e6 w6 ⟨rfl, hk6⟩
    have HS6 := Lib.hid (HS5.out.drew.kept hk6)
    clear hk6 HS5 HL HRD HWOK c0 c1 c2 c3 c4 c5 cf hb1 hmap HTK HF
    refine hK _ _ ?_
    clear hK K
    refine wpList_nil ?_
    refine And.intro ?_ ?_
    ·go_simp
    refine wpCan_nil ?_
    obtain ⟨hv, wv, hs, ws, hr1, hr2, h2⟩ := queOpen_C HS6.out
    obtain ⟨wa, wc, rfl⟩ := (h2.front 2 rfl).own_shape
    have hwl : ws.length = Q.waits.length := by rw [← hr2.1, List.length_map]
    have HL := Lib.hid (loadC (blk_range (h2.drew.blk 3 rfl)))
    obtain ⟨c0, c1, c2, c3, c4, c5, cf⟩ := cells6 (h2.blk 0 rfl)
    have HR1 := Lib.hid hr1
    have HR2 := Lib.hid hr2
    have hNb : ws.length ≤ 100000 := by omega
    have hat : at_ ≤ ws.length := by omega
    have HS7 := Lib.hid (show Sat B D w6 (qbC q hv (.slice wa ws.length wc) :: entsC hv hs :: ownS tEnC 18 (.slice wa ws.length wc) ws.length (ws.flatMap cellsC) :: blk bz (cellsC en).toArray tEnC :: blk bc c.cells.toArray tCl :: l) from h2)
    generalize hN : ws.length = N at *
    have HN := Lib.hid hN
    clear hr1 hr2 h2 hwl hN HS6
    go_upto_region 16 with fail
    refine wp_region_canon [(0, false, 11), (1, false, 8), (2, false, 8), (3, false, 8), (4, false, 8), (5, false, 8), (6, false, 7), (7, true, 0), (8, true, 0), (9, false, 11), (10, false, 11), (11, true, 0)] (by kernel_rfl) (by kernel_rfl) ?_
    iterate 7 (refine wpCan_read rfl rfl (fun K hK => ?_); (first | ((refine still_ld _ _ rfl _ _ rfl _ HL.out ?_); go_simp) | go_simp); refine hK _ ?_; clear hK K)
    refine wpCan_eff rfl ?_
    refine wpList_build_one rfl _ _ rfl tEnC i0 _ (cellsC en) rfl Tryz.underlying108 HI.out.1 HI.out.2.1 (HI.out.2.2.1.trans rfl) (by rw [lenC]; decide) (by rw [lenC]; decide) ?_
    refine wpList_nil ?_
    obtain ⟨W8, hW8, hs8⟩ := Sat.hide (HS7.out.drew.alloc (cellsC en).toArray tEnC)
    rw [← hW8]
    clear hW8 HS7 HL c0 c1 c2 c3 c4 c5 cf
    generalize w6.drew.heap.size = by_ at hs8 ⊢
    obtain ⟨c0, c1, c2, c3, c4, c5, cf⟩ := cells6 (hs8.blk 1 rfl)
    have HS8 := Lib.hid (show Sat B D W8 (ownS tEnC 18 (.slice wa N wc) N (ws.flatMap cellsC) :: blk by_ (cellsC en).toArray tEnC :: qbC q hv (.slice wa N wc) :: entsC hv hs :: blk bz (cellsC en).toArray tEnC :: blk bc c.cells.toArray tCl :: l) from hs8.front 3 rfl)
    clear hs8
    refine And.intro ?_ ?_
    ·go_simp
    refine wpCan_eff rfl ?_
    refine wpList_do rfl (fun K hK => ?_)
    go_simp
    refine (insert_C (i := at_) hat (lenC en) (oneC en) by_ (by omega) HS8.out).mono ?_
    rintro e9 w9 ⟨v9, rfl, hs9⟩
    rw [flat_ins lenC] at hs9
    obtain ⟨va, vc, rfl⟩ := hs9.own_shape
    clear c0 c1 c2 c3 c4 c5 cf HS8
    obtain ⟨c0, c1, c2, c3, c4, c5, cf⟩ := cells6 (hs9.blk 2 rfl)
    have HS9 := Lib.hid (Sat.set6 (hs9.front 2 rfl) (.slice va (N + 1) vc))
    clear hs9
    refine hK _ _ ?_
    clear hK K
    refine wpList_nil ?_
    refine And.intro ?_ ?_
    ·go_simp
    iterate 2 (refine wpCan_read rfl rfl (fun K hK => ?_); (first | ((refine still_ld _ _ rfl _ _ rfl _ HL.out ?_); go_simp) | go_simp); refine hK _ ?_; clear hK K)
    refine wpCan_eff rfl ?_
    refine wpList_plain rfl (fun K hK => ?_)
    go_simp
    refine hK _ _ ?_
    clear hK K
    refine wpList_nil ?_
    refine And.intro ?_ ?_
    ·go_simp
    refine wpCan_nil ?_
    go_wp2_with fail
    go_ret
    rw [HASK.out]
    refine ⟨D, rfl, HLEX.out, ?_⟩
    have h7 := (HS9.out.front 2 rfl).drop
    have h8 : Sat B D (w9.setCell ⟨q, 5, none⟩ (.slice va (N + 1) vc)) (qbC q hv (.slice va (N + 1) vc) :: entsC hv hs :: entsC (.slice va (N + 1) vc) (ws.take at_ ++ [en] ++ ws.drop at_) :: blk bz (cellsC en).toArray tEnC :: blk bc c.cells.toArray tCl :: l) := by
     show Sat B D _ (qbC q _ _ :: entsC hv hs :: ownS tEnC 18 _ (ws.take at_ ++ [en] ++ ws.drop at_).length _ :: _)
     rw [show (ws.take at_ ++ [en] ++ ws.drop at_).length = N + 1 by simp [HN.out]; omega]
     exact (h7.swap.front 2 rfl).rot.rot
    refine (queShut_C (Q := ⟨Q.held, Q.waits.take at_ ++ [entC en] ++ Q.waits.drop at_⟩) HR1.out ⟨?_, ?_⟩ h8).swap.drop.swap.drop
    ·rw [List.map_append, List.map_append, List.map_take, List.map_drop, HR2.out.1]
     rfl
    ·intro x hx
     rcases List.mem_append.1 hx with hx | hx
     ·rcases List.mem_append.1 hx with hx | hx
      ·exact HR2.out.2 x (List.mem_of_mem_take hx)
      ·obtain rfl := List.mem_singleton.1 hx
       exact HOK.out
     ·exact HR2.out.2 x (List.mem_of_mem_drop hx)
  ·have HF := Lib.hid hf
   have HASK := Lib.hid (show askQ RC Q o (cdC c) b = (giveQ RC Q (entC en), true) by rw [HGO.out b, hf]; simp)
   clear hf
   (try go_upto_region 12 with fail)
   obtain ⟨hv, wv, hs, ws, hr1, hr2, h2⟩ := queOpen_C HS5.out.drew
   obtain ⟨wa, wc, rfl⟩ := (h2.front 2 rfl).own_shape
   have hwl : ws.length = Q.waits.length := by rw [← hr2.1, List.length_map]
   have hat : at_ ≤ ws.length := by omega
   have HRD := Lib.hid (Rd.takeE lenC (h2.own 2 rfl).rd (m := at_) hat rfl)
   have HWOK := Lib.hid (fun (x : EntE) (hx : x ∈ ws.take at_) => (hr2.2 x (List.mem_of_mem_take hx) : ClOk D x.x))
   have HTK := Lib.hid (show (ws.take at_).map entC = Q.waits.take at_ by rw [List.map_take, hr2.1])
   have HL := Lib.hid (loadC (blk_range (h2.blk 3 rfl)))
   obtain ⟨c0, c1, c2, c3, c4, c5, cf⟩ := cells6 (h2.blk 0 rfl)
   have hws : ws.length ≤ wc := by obtain ⟨_, _, _, _, hx, hy, _⟩ := (h2.own 2 rfl).rd; cases hx; exact hy
   have hb1 : (at_ : Int) ≤ (wc : Int) := by omega
   have hmap : Option.map (fun x => Addr.add x 0) wa = wa := by rcases (h2.own 2 rfl).2.2 with ⟨hx, _⟩ | ⟨g, c2, cur, hx, _⟩ <;> rw [(Value.slice.inj hx).1] <;> first | rfl | simp [add_none]
   generalize hN : ws.length = N at *
   clear hr1 hr2 h2 hwl hN hws
   refine wp_region_canon [(0, false, 8), (1, false, 8), (2, false, 8), (3, false, 8), (4, false, 8), (5, false, 8), (6, false, 8), (7, false, 8), (8, true, 0)] (by kernel_rfl) (by kernel_rfl) ?_
   iterate 8 (refine wpCan_read rfl rfl (fun K hK => ?_); (first | ((refine still_ld _ _ rfl _ _ rfl _ HL.out ?_); go_simp) | go_simp); refine hK _ ?_; clear hK K)
   refine wpCan_eff rfl ?_
   refine wpList_do rfl (fun K hK => ?_)
   go_simp
   refine (free_C en (HD.out.env HS5.out.drew) (PH.le.refl _) HOK.out HWOK.out HRD.out HS5.out.drew).mono ?_
   rw [HTK.out, HENO.out, HF.out]
   rintro e6 w6 ⟨rfl, hk6⟩
   have HS6 := Lib.hid (HS5.out.drew.kept hk6)
   clear hk6 HS5 HL HRD HWOK c0 c1 c2 c3 c4 c5 cf hb1 hmap HTK HF
   refine hK _ _ ?_
   clear hK K
   refine wpList_nil ?_
   refine And.intro ?_ ?_
   ·go_simp
   refine wpCan_nil ?_
   have HL := Lib.hid (loadC (blk_range (HS6.out.blk 1 rfl)))
   go_wp2_with (first | (refine wpList_ld rfl _ _ rfl _ _ rfl _ HL.out ?_) | (go_at_call 136; refine (give_C en hh (PH.le.refl _) HOK.out HS6.out).mono ?_; rintro e7 w7 ⟨rfl, hs7⟩; have HS7 := Lib.hid hs7; clear hs7 HS6 HL))
   go_ret
   rw [HASK.out]
   exact ⟨D, rfl, HLEX.out, HS7.out.swap.drop.swap.drop⟩

end Go.Proofs.YtgljdkjepdknnaaGreatDoor
