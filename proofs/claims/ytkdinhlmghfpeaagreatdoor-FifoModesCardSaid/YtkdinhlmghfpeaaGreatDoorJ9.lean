/- Asking. (printed by genq.py) -/
import Derived.Test.YtkdinhlmghfpeaaGreatDoorJ8
namespace Go.Proofs.YtkdinhlmghfpeaaGreatDoor
open Go.ChangeShapes Go.WideShapes Go.ChangeAt Go.RowKit
set_option maxRecDepth 100000
set_option linter.unusedSimpArgs false


set_option maxHeartbeats 16000000 in
theorem ask_M {B w : World} {D : PH} {l : List HP} {q : Nat} {Q : Qm Int} (o : Int) (c : Int) (b : Bool) (hD : EnvD D) (hh : Q.held.length ≤ 100000) (hww : Q.waits.length ≤ 1000) (h : Sat B D w (queM D q Q :: l)) :
    Calls Tryz.prog 47 #[.pointer (some ⟨q, 0, none⟩), .int .i64 o, cvM c, .bool b] w fun r w' => r = .returned (.bool (askQ RM Q o (cdM c) b).2) ∧ Sat B D w' (queM D q (askQ RM Q o (cdM c) b).1 :: l) := by
  obtain ⟨i0, hi, hz0, hz1, hz2⟩ := info_parts infoM
  have HI := Lib.hid (And.intro hi (And.intro hz0 (And.intro hz1 hz2)))
  clear hi hz0 hz1 hz2
  have HD := Lib.hid hD
  have HS := Lib.hid h
  have HW := Lib.hid (waiting_M o h)
  clear h hD
  rcases wait_cases Q.waits o with ⟨hw, hk⟩ | ⟨hw, hk⟩
  · have HASK := Lib.hid (show askQ RM Q o (cdM c) b = (Q, false) by unfold askQ; rw [if_pos hw])
    rw [HASK.out]
    generalize idxI (ofE o) Q.waits = k at *
    clear hw
    go_enter Tryz.func47, Tryz.ntmps47
    go_wp2_with (go_at_call 48; refine HW.out.mono ?_; rintro e1 w1 ⟨rfl, hk1⟩; have HS1 := Lib.hid (HS.out.kept hk1); clear hk1 HS HW)
    go_ret
    exact ⟨rfl, HS1.out⟩
  rw [hk] at HW
  have HWN := Lib.hid hw
  clear hk hw
  rcases own_cases (R := RM) Q.held o (cdM c) with ⟨k, ho, hk, hlt⟩ | ⟨ho, hk⟩
  · obtain ⟨x0, hx0⟩ : ∃ x, Q.held[k]? = some x := ⟨Q.held[k], List.getElem?_eq_getElem hlt⟩
    have HX0 := Lib.hid hx0
    have HO := Lib.hid ho
    have HK := Lib.hid hk
    clear hx0 ho hk
    cases hcv : RM.cov x0.c (cdM c)
    · have HFOR := Lib.hid (show askFor RM Q o (cdM c) = some (⟨o, RM.join x0.c (cdM c), true⟩, moresN Q.waits) by unfold askFor; simp only [HO.out, HX0.out, hcv]; simp)
      have HGO0 := Lib.hid (show ∀ b, askQ RM Q o (cdM c) b = _ from fun b => askQ_go (b := b) HWN.out HFOR.out)
      have HCV := Lib.hid hcv
      clear HFOR hcv
      go_enter Tryz.func47, Tryz.ntmps47
      go_upto_region 3 with (go_at_call 48; refine HW.out.mono ?_; rintro e1 w1 ⟨rfl, hk1⟩; have HS1 := Lib.hid (HS.out.kept hk1); clear hk1 HS HW)
      have HS2 := Lib.hid (HS1.out.alloc #[.int .i64 o, .int .i64 c, .bool false] tEnM)
      clear HS1
      go_upto_region 4 with fail
      obtain ⟨W2, hW2, hs2⟩ := Sat.hide HS2.out
      rw [← hW2]
      clear hW2 HS2
      generalize w1.heap.size = bz at hs2 ⊢
      have HS2 := Lib.hid hs2.swap
      obtain ⟨hv, wv, hs, ws, hr1, hr2, h2⟩ := queOpen_M hs2.swap
      obtain ⟨wa, wc, rfl⟩ := (h2.front 2 rfl).own_shape
      obtain ⟨c0, c1, c2, c3, c4, c5, cf⟩ := cells6 (h2.blk 0 rfl)
      generalize ws.length = nw at c5
      clear hs2 h2 hr1 hr2
      go_upto_region 6 with (go_at_call 81; refine (own_M o c HS2.out).mono ?_; rw [HK.out]; rintro e3 w3 ⟨rfl, hk3⟩; have HS6 := Lib.hid (HS2.out.kept hk3); clear hk3 HS2 c0 c1 c2 c3 c4 c5 cf)
      obtain ⟨hv, wv, hs, ws, hr1, hr2, h1⟩ := queOpen_M HS6.out
      obtain ⟨x, hx, hxe⟩ : ∃ x, hs[k]? = some x ∧ entM x = x0 := by
        have hx0 := HX0.out
        rw [← hr1.1, List.getElem?_map] at hx0
        cases hxx : hs[k]? with
        | none => rw [hxx] at hx0; cases hx0
        | some x => rw [hxx] at hx0; exact ⟨x, rfl, Option.some.inj hx0⟩
      obtain ⟨ha, hcp, rfl⟩ := (h1.front 1 rfl).own_shape
      obtain ⟨g, og, rfl, hrng⟩ := elem_range lenM (h1.own 1 rfl).rd hx rfl
      have x1 := hrng 1 _ rfl
      rw [show (entM x).c = x0.c from by rw [hxe]] at x1
      obtain ⟨c0, c1, c2, c3, c4, c5, cf⟩ := cells6 (h1.blk 0 rfl)
      have hkl : (k : Int) < (hs.length : Int) := by have := (List.getElem?_eq_some_iff.1 hx).1; omega
      generalize hs.length = nh at c4 hkl
      clear hr1 hr2 h1 hx hxe hrng
      go_upto_region 8 with fail
      go_upto_region 10 with (first | (go_at_call 45; refine (Covers_is HCV.out _ (HD.out.env HS6.out).2).mono ?_; rintro e4 w4 ⟨rfl, hk4⟩; have HS7 := Lib.hid (HS6.out.kept hk4); clear hk4 HS6 c0 c1 c2 c3 c4 c5 cf x1))
      obtain ⟨hv, wv, hs, ws, hr1, hr2, h3⟩ := queOpen_M HS7.out
      obtain ⟨c0, c1, c2, c3, c4, c5, cf⟩ := cells6 (h3.blk 0 rfl)
      clear hr1 hr2 h3
      have HJN := Lib.hid (Join_ok x0.c c _ (HD.out.env HS7.out).1 (HD.out.env HS7.out).2)
      obtain ⟨j0, hj0⟩ : ∃ j, j = joinM x0.c c := ⟨_, rfl⟩
      rw [← hj0] at HJN
      obtain ⟨en, hen⟩ : ∃ en : Ent Int, en = mkM o j0 true := ⟨_, rfl⟩
      have HGO := Lib.hid (show ∀ b, askQ RM Q o (cdM c) b = if freeE RM Q o (entM en).c (Q.waits.take (moresN Q.waits)) then (giveQ RM Q (entM en), true) else if b then (⟨Q.held, Q.waits.take (moresN Q.waits) ++ [entM en] ++ Q.waits.drop (moresN Q.waits)⟩, false) else (Q, false) from fun b => by rw [HGO0.out b, hen, hj0]; rfl)
      have HENO := Lib.hid (show (entM en).o = o by rw [hen])
      have HEN := Lib.hid hen
      clear HGO0 hj0 hen
      go_upto_region 11 with (go_at_call 46; refine HJN.out.mono ?_; rintro e5 w5 ⟨rfl, hk5⟩; have hs8 := HS7.out.kept hk5; obtain ⟨z0, z1, z2, zf⟩ := cells3 (hs8.blk 1 rfl); have HS8 := Lib.hid (show Sat B D ((w5.setCell ⟨bz, 1, none⟩ (.int .i64 j0)).setCell ⟨bz, 2, none⟩ (.bool true)) (queM D q Q :: blk bz #[.int .i64 o, .int .i64 j0, .bool true] tEnM :: l) from ((hs8.swap.set 1 (.int .i64 j0)).set 2 (.bool true)).swap); clear hs8 hk5 HJN HS7 c0 c1 c2 c3 c4 c5 cf)
      obtain ⟨W9, hW9, hs9⟩ := Sat.hide HS8.out
      rw [← hW9]
      clear hW9 HS8 z0 z1 z2 zf
      have HS9 := Lib.hid (show Sat B D W9 (queM D q Q :: blk bz (cellsM en).toArray tEnM :: l) from by rw [HEN.out]; exact hs9)
      clear hs9
      go_upto_region 12 with (go_at_call 82; refine (mores_M HS9.out).mono ?_; rintro e6 w6 ⟨rfl, rfl⟩)
      have hat0 : moresN Q.waits ≤ Q.waits.length := moresN_le _
      generalize moresN Q.waits = at_ at *
      have HS5 := Lib.hid HS9.out
      clear HS9
      cases hf : freeE RM Q o (entM en).c (Q.waits.take at_)
      · have HF := Lib.hid hf
        cases b
        · have HASK := Lib.hid (show askQ RM Q o (cdM c) false = (Q, false) by rw [HGO.out false, hf]; simp)
          clear hf
          (try go_upto_region 12 with fail)
          obtain ⟨hv, wv, hs, ws, hr1, hr2, h2⟩ := queOpen_M HS5.out.drew
          obtain ⟨wa, wc, rfl⟩ := (h2.front 2 rfl).own_shape
          have hwl : ws.length = Q.waits.length := by rw [← hr2.1, List.length_map]
          have hat : at_ ≤ ws.length := by omega
          have HRD := Lib.hid (Rd.takeE lenM (h2.own 2 rfl).rd (m := at_) hat rfl)
          have HTK := Lib.hid (show (ws.take at_).map entM = Q.waits.take at_ by rw [List.map_take, hr2.1])
          have HL := Lib.hid (loadM (blk_range (h2.blk 3 rfl)))
          obtain ⟨c0, c1, c2, c3, c4, c5, cf⟩ := cells6 (h2.blk 0 rfl)
          have hws : ws.length ≤ wc := by obtain ⟨_, _, _, _, hx, hy, _⟩ := (h2.own 2 rfl).rd; cases hx; exact hy
          have hb1 : (at_ : Int) ≤ (wc : Int) := by omega
          have hmap : Option.map (fun x => Addr.add x 0) wa = wa := by rcases (h2.own 2 rfl).2.2 with ⟨hx, _⟩ | ⟨g, c2, cur, hx, _⟩ <;> rw [(Value.slice.inj hx).1] <;> first | rfl | simp [add_none]
          generalize hN : ws.length = N at *
          clear hr1 hr2 h2 hwl hN hws
          refine wp_region_canon [(0, false, 8), (1, false, 8), (2, false, 8), (3, false, 8), (4, false, 8), (5, false, 8), (6, false, 8), (7, false, 8), (8, true, 0)] (by kernel_rfl) (by kernel_rfl) ?_
          iterate 8 (refine wpCan_read rfl rfl (fun K hK => ?_); (first | ((refine still_ld _ _ rfl _ _ rfl _ HL.out ?_); go_simp) | go_simp); refine hK _ ?_; clear hK K)
          refine wpCan_eff rfl ?_
          refine wpList_do rfl (fun K hK => ?_)
          go_simp
          refine (free_M en (HD.out.env HS5.out.drew) HRD.out HS5.out.drew).mono ?_
          rw [HTK.out, HENO.out, HF.out]
          rintro e6 w6 ⟨rfl, hk6⟩
          have HS6 := Lib.hid (HS5.out.drew.kept hk6)
          clear hk6 HS5 HL HRD c0 c1 c2 c3 c4 c5 cf hb1 hmap HTK HF
          refine hK _ _ ?_
          clear hK K
          refine wpList_nil ?_
          refine And.intro ?_ ?_
          · go_simp
          refine wpCan_nil ?_
          go_wp2_with fail
          go_ret
          rw [HASK.out]
          exact ⟨rfl, HS6.out.swap.drop⟩
        · have HASK := Lib.hid (show askQ RM Q o (cdM c) true = (⟨Q.held, Q.waits.take at_ ++ [entM en] ++ Q.waits.drop at_⟩, false) by rw [HGO.out true, hf]; simp)
          clear hf
          (try go_upto_region 12 with fail)
          obtain ⟨hv, wv, hs, ws, hr1, hr2, h2⟩ := queOpen_M HS5.out.drew
          obtain ⟨wa, wc, rfl⟩ := (h2.front 2 rfl).own_shape
          have hwl : ws.length = Q.waits.length := by rw [← hr2.1, List.length_map]
          have hat : at_ ≤ ws.length := by omega
          have HRD := Lib.hid (Rd.takeE lenM (h2.own 2 rfl).rd (m := at_) hat rfl)
          have HTK := Lib.hid (show (ws.take at_).map entM = Q.waits.take at_ by rw [List.map_take, hr2.1])
          have HL := Lib.hid (loadM (blk_range (h2.blk 3 rfl)))
          obtain ⟨c0, c1, c2, c3, c4, c5, cf⟩ := cells6 (h2.blk 0 rfl)
          have hws : ws.length ≤ wc := by obtain ⟨_, _, _, _, hx, hy, _⟩ := (h2.own 2 rfl).rd; cases hx; exact hy
          have hb1 : (at_ : Int) ≤ (wc : Int) := by omega
          have hmap : Option.map (fun x => Addr.add x 0) wa = wa := by rcases (h2.own 2 rfl).2.2 with ⟨hx, _⟩ | ⟨g, c2, cur, hx, _⟩ <;> rw [(Value.slice.inj hx).1] <;> first | rfl | simp [add_none]
          generalize hN : ws.length = N at *
          clear hr1 hr2 h2 hwl hN hws
          refine wp_region_canon [(0, false, 8), (1, false, 8), (2, false, 8), (3, false, 8), (4, false, 8), (5, false, 8), (6, false, 8), (7, false, 8), (8, true, 0)] (by kernel_rfl) (by kernel_rfl) ?_
          iterate 8 (refine wpCan_read rfl rfl (fun K hK => ?_); (first | ((refine still_ld _ _ rfl _ _ rfl _ HL.out ?_); go_simp) | go_simp); refine hK _ ?_; clear hK K)
          refine wpCan_eff rfl ?_
          refine wpList_do rfl (fun K hK => ?_)
          go_simp
          refine (free_M en (HD.out.env HS5.out.drew) HRD.out HS5.out.drew).mono ?_
          rw [HTK.out, HENO.out, HF.out]
          rintro e6 w6 ⟨rfl, hk6⟩
          have HS6 := Lib.hid (HS5.out.drew.kept hk6)
          clear hk6 HS5 HL HRD c0 c1 c2 c3 c4 c5 cf hb1 hmap HTK HF
          refine hK _ _ ?_
          clear hK K
          refine wpList_nil ?_
          refine And.intro ?_ ?_
          · go_simp
          refine wpCan_nil ?_
          obtain ⟨hv, wv, hs, ws, hr1, hr2, h2⟩ := queOpen_M HS6.out
          obtain ⟨wa, wc, rfl⟩ := (h2.front 2 rfl).own_shape
          have hwl : ws.length = Q.waits.length := by rw [← hr2.1, List.length_map]
          have HL := Lib.hid (loadM (blk_range (h2.drew.blk 3 rfl)))
          obtain ⟨c0, c1, c2, c3, c4, c5, cf⟩ := cells6 (h2.blk 0 rfl)
          have HR1 := Lib.hid hr1
          have HR2 := Lib.hid hr2
          have hNb : ws.length ≤ 100000 := by omega
          have hat : at_ ≤ ws.length := by omega
          have HS7 := Lib.hid (show Sat B D w6 (qbM q hv (.slice wa ws.length wc) :: entsM hv hs :: ownS tEnM 3 (.slice wa ws.length wc) ws.length (ws.flatMap cellsM) :: blk bz (cellsM en).toArray tEnM :: l) from h2)
          generalize hN : ws.length = N at *
          have HN := Lib.hid hN
          clear hr1 hr2 h2 hwl hN HS6
          go_upto_region 16 with fail
          refine wp_region_canon [(0, false, 11), (1, false, 8), (2, false, 8), (3, false, 8), (4, false, 8), (5, false, 8), (6, false, 7), (7, true, 0), (8, true, 0), (9, false, 11), (10, false, 11), (11, true, 0)] (by kernel_rfl) (by kernel_rfl) ?_
          iterate 7 (refine wpCan_read rfl rfl (fun K hK => ?_); (first | ((refine still_ld _ _ rfl _ _ rfl _ HL.out ?_); go_simp) | go_simp); refine hK _ ?_; clear hK K)
          refine wpCan_eff rfl ?_
          refine wpList_build_one rfl _ _ rfl tEnM i0 _ (cellsM en) rfl Tryz.underlying69 HI.out.1 HI.out.2.1 (HI.out.2.2.1.trans rfl) (by rw [lenM]; decide) (by rw [lenM]; decide) ?_
          refine wpList_nil ?_
          obtain ⟨W8, hW8, hs8⟩ := Sat.hide (HS7.out.drew.alloc (cellsM en).toArray tEnM)
          rw [← hW8]
          clear hW8 HS7 HL c0 c1 c2 c3 c4 c5 cf
          generalize w6.drew.heap.size = by_ at hs8 ⊢
          obtain ⟨c0, c1, c2, c3, c4, c5, cf⟩ := cells6 (hs8.blk 1 rfl)
          have HS8 := Lib.hid (show Sat B D W8 (ownS tEnM 3 (.slice wa N wc) N (ws.flatMap cellsM) :: blk by_ (cellsM en).toArray tEnM :: qbM q hv (.slice wa N wc) :: entsM hv hs :: blk bz (cellsM en).toArray tEnM :: l) from hs8.front 3 rfl)
          clear hs8
          refine And.intro ?_ ?_
          · go_simp
          refine wpCan_eff rfl ?_
          refine wpList_do rfl (fun K hK => ?_)
          go_simp
          refine (insert_M (i := at_) hat (lenM en) (oneM en) by_ (by omega) HS8.out).mono ?_
          rintro e9 w9 ⟨v9, rfl, hs9⟩
          rw [flat_ins lenM] at hs9
          obtain ⟨va, vc, rfl⟩ := hs9.own_shape
          clear c0 c1 c2 c3 c4 c5 cf HS8
          obtain ⟨c0, c1, c2, c3, c4, c5, cf⟩ := cells6 (hs9.blk 2 rfl)
          have HS9 := Lib.hid (Sat.set6 (hs9.front 2 rfl) (.slice va (N + 1) vc))
          clear hs9
          refine hK _ _ ?_
          clear hK K
          refine wpList_nil ?_
          refine And.intro ?_ ?_
          · go_simp
          iterate 2 (refine wpCan_read rfl rfl (fun K hK => ?_); (first | ((refine still_ld _ _ rfl _ _ rfl _ HL.out ?_); go_simp) | go_simp); refine hK _ ?_; clear hK K)
          refine wpCan_eff rfl ?_
          refine wpList_plain rfl (fun K hK => ?_)
          go_simp
          refine hK _ _ ?_
          clear hK K
          refine wpList_nil ?_
          refine And.intro ?_ ?_
          · go_simp
          refine wpCan_nil ?_
          go_wp2_with fail
          go_ret
          rw [HASK.out]
          refine ⟨rfl, ?_⟩
          have h7 := (HS9.out.front 2 rfl).drop
          have h8 : Sat B D (w9.setCell ⟨q, 5, none⟩ (.slice va (N + 1) vc)) (qbM q hv (.slice va (N + 1) vc) :: entsM hv hs :: entsM (.slice va (N + 1) vc) (ws.take at_ ++ [en] ++ ws.drop at_) :: blk bz (cellsM en).toArray tEnM :: l) := by
            show Sat B D _ (qbM q _ _ :: entsM hv hs :: ownS tEnM 3 _ (ws.take at_ ++ [en] ++ ws.drop at_).length _ :: _)
            rw [show (ws.take at_ ++ [en] ++ ws.drop at_).length = N + 1 by simp [HN.out]; omega]
            exact (h7.swap.front 2 rfl).rot.rot
          refine (queShut_M (Q := ⟨Q.held, Q.waits.take at_ ++ [entM en] ++ Q.waits.drop at_⟩) HR1.out ⟨?_, ?_⟩ h8).swap.drop
          · rw [List.map_append, List.map_append, List.map_take, List.map_drop, HR2.out.1]
            rfl
          · intro x hx
            rcases List.mem_append.1 hx with hx | hx
            · rcases List.mem_append.1 hx with hx | hx
              · exact HR2.out.2 x (List.mem_of_mem_take hx)
              · obtain rfl := List.mem_singleton.1 hx
                exact trivial
            · exact HR2.out.2 x (List.mem_of_mem_drop hx)
      · have HF := Lib.hid hf
        have HASK := Lib.hid (show askQ RM Q o (cdM c) b = (giveQ RM Q (entM en), true) by rw [HGO.out b, hf]; simp)
        clear hf
        (try go_upto_region 12 with fail)
        obtain ⟨hv, wv, hs, ws, hr1, hr2, h2⟩ := queOpen_M HS5.out.drew
        obtain ⟨wa, wc, rfl⟩ := (h2.front 2 rfl).own_shape
        have hwl : ws.length = Q.waits.length := by rw [← hr2.1, List.length_map]
        have hat : at_ ≤ ws.length := by omega
        have HRD := Lib.hid (Rd.takeE lenM (h2.own 2 rfl).rd (m := at_) hat rfl)
        have HTK := Lib.hid (show (ws.take at_).map entM = Q.waits.take at_ by rw [List.map_take, hr2.1])
        have HL := Lib.hid (loadM (blk_range (h2.blk 3 rfl)))
        obtain ⟨c0, c1, c2, c3, c4, c5, cf⟩ := cells6 (h2.blk 0 rfl)
        have hws : ws.length ≤ wc := by obtain ⟨_, _, _, _, hx, hy, _⟩ := (h2.own 2 rfl).rd; cases hx; exact hy
        have hb1 : (at_ : Int) ≤ (wc : Int) := by omega
        have hmap : Option.map (fun x => Addr.add x 0) wa = wa := by rcases (h2.own 2 rfl).2.2 with ⟨hx, _⟩ | ⟨g, c2, cur, hx, _⟩ <;> rw [(Value.slice.inj hx).1] <;> first | rfl | simp [add_none]
        generalize hN : ws.length = N at *
        clear hr1 hr2 h2 hwl hN hws
        refine wp_region_canon [(0, false, 8), (1, false, 8), (2, false, 8), (3, false, 8), (4, false, 8), (5, false, 8), (6, false, 8), (7, false, 8), (8, true, 0)] (by kernel_rfl) (by kernel_rfl) ?_
        iterate 8 (refine wpCan_read rfl rfl (fun K hK => ?_); (first | ((refine still_ld _ _ rfl _ _ rfl _ HL.out ?_); go_simp) | go_simp); refine hK _ ?_; clear hK K)
        refine wpCan_eff rfl ?_
        refine wpList_do rfl (fun K hK => ?_)
        go_simp
        refine (free_M en (HD.out.env HS5.out.drew) HRD.out HS5.out.drew).mono ?_
        rw [HTK.out, HENO.out, HF.out]
        rintro e6 w6 ⟨rfl, hk6⟩
        have HS6 := Lib.hid (HS5.out.drew.kept hk6)
        clear hk6 HS5 HL HRD c0 c1 c2 c3 c4 c5 cf hb1 hmap HTK HF
        refine hK _ _ ?_
        clear hK K
        refine wpList_nil ?_
        refine And.intro ?_ ?_
        · go_simp
        refine wpCan_nil ?_
        have HL := Lib.hid (loadM (blk_range (HS6.out.blk 1 rfl)))
        go_wp2_with (first | (refine wpList_ld rfl _ _ rfl _ _ rfl _ HL.out ?_) | (go_at_call 84; refine (give_M en hh HS6.out).mono ?_; rintro e7 w7 ⟨rfl, hs7⟩; have HS7 := Lib.hid hs7; clear hs7 HS6 HL))
        go_ret
        rw [HASK.out]
        exact ⟨rfl, HS7.out.swap.drop⟩
    · have HASK := Lib.hid (show askQ RM Q o (cdM c) b = (Q, true) by unfold askQ askFor; rw [HWN.out]; simp only [HO.out, HX0.out, hcv]; simp)
      have HCV := Lib.hid hcv
      clear hcv
      go_enter Tryz.func47, Tryz.ntmps47
      go_upto_region 3 with (go_at_call 48; refine HW.out.mono ?_; rintro e1 w1 ⟨rfl, hk1⟩; have HS1 := Lib.hid (HS.out.kept hk1); clear hk1 HS HW)
      have HS2 := Lib.hid (HS1.out.alloc #[.int .i64 o, .int .i64 c, .bool false] tEnM)
      clear HS1
      go_upto_region 4 with fail
      obtain ⟨W2, hW2, hs2⟩ := Sat.hide HS2.out
      rw [← hW2]
      clear hW2 HS2
      generalize w1.heap.size = bz at hs2 ⊢
      have HS2 := Lib.hid hs2.swap
      obtain ⟨hv, wv, hs, ws, hr1, hr2, h2⟩ := queOpen_M hs2.swap
      obtain ⟨wa, wc, rfl⟩ := (h2.front 2 rfl).own_shape
      obtain ⟨c0, c1, c2, c3, c4, c5, cf⟩ := cells6 (h2.blk 0 rfl)
      generalize ws.length = nw at c5
      clear hs2 h2 hr1 hr2
      go_upto_region 6 with (go_at_call 81; refine (own_M o c HS2.out).mono ?_; rw [HK.out]; rintro e3 w3 ⟨rfl, hk3⟩; have HS6 := Lib.hid (HS2.out.kept hk3); clear hk3 HS2 c0 c1 c2 c3 c4 c5 cf)
      obtain ⟨hv, wv, hs, ws, hr1, hr2, h1⟩ := queOpen_M HS6.out
      obtain ⟨x, hx, hxe⟩ : ∃ x, hs[k]? = some x ∧ entM x = x0 := by
        have hx0 := HX0.out
        rw [← hr1.1, List.getElem?_map] at hx0
        cases hxx : hs[k]? with
        | none => rw [hxx] at hx0; cases hx0
        | some x => rw [hxx] at hx0; exact ⟨x, rfl, Option.some.inj hx0⟩
      obtain ⟨ha, hcp, rfl⟩ := (h1.front 1 rfl).own_shape
      obtain ⟨g, og, rfl, hrng⟩ := elem_range lenM (h1.own 1 rfl).rd hx rfl
      have x1 := hrng 1 _ rfl
      rw [show (entM x).c = x0.c from by rw [hxe]] at x1
      obtain ⟨c0, c1, c2, c3, c4, c5, cf⟩ := cells6 (h1.blk 0 rfl)
      have hkl : (k : Int) < (hs.length : Int) := by have := (List.getElem?_eq_some_iff.1 hx).1; omega
      generalize hs.length = nh at c4 hkl
      clear hr1 hr2 h1 hx hxe hrng
      go_wp2_with (go_at_call 45; refine (Covers_is HCV.out _ (HD.out.env HS6.out).2).mono ?_; rintro e4 w4 ⟨rfl, hk4⟩; have HS7 := Lib.hid (HS6.out.kept hk4); clear hk4 HS6 c0 c1 c2 c3 c4 c5 cf x1)
      go_ret
      rw [HASK.out]
      exact ⟨rfl, HS7.out.swap.drop⟩
  · have HFOR := Lib.hid (show askFor RM Q o (cdM c) = some (⟨o, cdM c, false⟩, Q.waits.length) by unfold askFor; rw [ho])
    have HGO := Lib.hid (show ∀ b, askQ RM Q o (cdM c) b = _ from fun b => askQ_go (b := b) HWN.out HFOR.out)
    have HOWN := Lib.hid hk
    clear ho hk HFOR
    obtain ⟨en, hen⟩ : ∃ en : Ent Int, en = mkM o c false := ⟨_, rfl⟩
    obtain ⟨at_, hat_⟩ : ∃ n, n = Q.waits.length := ⟨_, rfl⟩
    rw [show (⟨o, cdM c, false⟩ : Ent Int) = entM en from by subst hen; rfl, ← hat_] at HGO
    have hat0 : at_ ≤ Q.waits.length := by omega
    have HAT := Lib.hid hat_
    have HEN := Lib.hid hen
    have HENO := Lib.hid (show (entM en).o = o by rw [hen])
    clear hen hat_
    go_enter Tryz.func47, Tryz.ntmps47
    go_upto_region 3 with (go_at_call 48; refine HW.out.mono ?_; rintro e1 w1 ⟨rfl, hk1⟩; have HS1 := Lib.hid (HS.out.kept hk1); clear hk1 HS HW)
    have HS2 := Lib.hid (HS1.out.alloc (cellsM en).toArray tEnM)
    clear HS1
    go_upto_region 4 with fail
    obtain ⟨W2, hW2, hs2⟩ := Sat.hide HS2.out
    rw [show (w1.alloc (.cells (cellsM en).toArray tEnM)) = w1.alloc (.cells #[.int .i64 o, .int .i64 c, .bool false] tEnM) from by rw [HEN.out]; rfl] at hW2
    rw [← hW2]
    clear hW2 HS2
    generalize w1.heap.size = bz at hs2 ⊢
    have HS2 := Lib.hid hs2.swap
    obtain ⟨hv, wv, hs, ws, hr1, hr2, h2⟩ := queOpen_M hs2.swap
    obtain ⟨wa, wc, rfl⟩ := (h2.front 2 rfl).own_shape
    have hwl : ws.length = at_ := by rw [← List.length_map (f := entM), hr2.1, HAT.out]
    obtain ⟨c0, c1, c2, c3, c4, c5, cf⟩ := cells6 (h2.blk 0 rfl)
    rw [hwl] at c5
    clear hs2 h2 hr1 hr2 hwl
    go_upto_region 6 with (go_at_call 81; refine (own_M o c HS2.out).mono ?_; rw [HOWN.out]; rintro e3 w3 ⟨rfl, hk3⟩; have HS5 := Lib.hid (HS2.out.kept hk3); clear hk3 HS2 c0 c1 c2 c3 c4 c5 cf)
    cases hf : freeE RM Q o (entM en).c (Q.waits.take at_)
    · have HF := Lib.hid hf
      cases b
      · have HASK := Lib.hid (show askQ RM Q o (cdM c) false = (Q, false) by rw [HGO.out false, hf]; simp)
        clear hf
        (try go_upto_region 12 with fail)
        obtain ⟨hv, wv, hs, ws, hr1, hr2, h2⟩ := queOpen_M HS5.out.drew
        obtain ⟨wa, wc, rfl⟩ := (h2.front 2 rfl).own_shape
        have hwl : ws.length = Q.waits.length := by rw [← hr2.1, List.length_map]
        have hat : at_ ≤ ws.length := by omega
        have HRD := Lib.hid (Rd.takeE lenM (h2.own 2 rfl).rd (m := at_) hat rfl)
        have HTK := Lib.hid (show (ws.take at_).map entM = Q.waits.take at_ by rw [List.map_take, hr2.1])
        have HL := Lib.hid (loadM (blk_range (h2.blk 3 rfl)))
        obtain ⟨c0, c1, c2, c3, c4, c5, cf⟩ := cells6 (h2.blk 0 rfl)
        have hws : ws.length ≤ wc := by obtain ⟨_, _, _, _, hx, hy, _⟩ := (h2.own 2 rfl).rd; cases hx; exact hy
        have hb1 : (at_ : Int) ≤ (wc : Int) := by omega
        have hmap : Option.map (fun x => Addr.add x 0) wa = wa := by rcases (h2.own 2 rfl).2.2 with ⟨hx, _⟩ | ⟨g, c2, cur, hx, _⟩ <;> rw [(Value.slice.inj hx).1] <;> first | rfl | simp [add_none]
        generalize hN : ws.length = N at *
        clear hr1 hr2 h2 hwl hN hws
        refine wp_region_canon [(0, false, 8), (1, false, 8), (2, false, 8), (3, false, 8), (4, false, 8), (5, false, 8), (6, false, 8), (7, false, 8), (8, true, 0)] (by kernel_rfl) (by kernel_rfl) ?_
        iterate 8 (refine wpCan_read rfl rfl (fun K hK => ?_); (first | ((refine still_ld _ _ rfl _ _ rfl _ HL.out ?_); go_simp) | go_simp); refine hK _ ?_; clear hK K)
        refine wpCan_eff rfl ?_
        refine wpList_do rfl (fun K hK => ?_)
        go_simp
        refine (free_M en (HD.out.env HS5.out.drew) HRD.out HS5.out.drew).mono ?_
        rw [HTK.out, HENO.out, HF.out]
        rintro e6 w6 ⟨rfl, hk6⟩
        have HS6 := Lib.hid (HS5.out.drew.kept hk6)
        clear hk6 HS5 HL HRD c0 c1 c2 c3 c4 c5 cf hb1 hmap HTK HF
        refine hK _ _ ?_
        clear hK K
        refine wpList_nil ?_
        refine And.intro ?_ ?_
        · go_simp
        refine wpCan_nil ?_
        go_wp2_with fail
        go_ret
        rw [HASK.out]
        exact ⟨rfl, HS6.out.swap.drop⟩
      · have HASK := Lib.hid (show askQ RM Q o (cdM c) true = (⟨Q.held, Q.waits.take at_ ++ [entM en] ++ Q.waits.drop at_⟩, false) by rw [HGO.out true, hf]; simp)
        clear hf
        (try go_upto_region 12 with fail)
        obtain ⟨hv, wv, hs, ws, hr1, hr2, h2⟩ := queOpen_M HS5.out.drew
        obtain ⟨wa, wc, rfl⟩ := (h2.front 2 rfl).own_shape
        have hwl : ws.length = Q.waits.length := by rw [← hr2.1, List.length_map]
        have hat : at_ ≤ ws.length := by omega
        have HRD := Lib.hid (Rd.takeE lenM (h2.own 2 rfl).rd (m := at_) hat rfl)
        have HTK := Lib.hid (show (ws.take at_).map entM = Q.waits.take at_ by rw [List.map_take, hr2.1])
        have HL := Lib.hid (loadM (blk_range (h2.blk 3 rfl)))
        obtain ⟨c0, c1, c2, c3, c4, c5, cf⟩ := cells6 (h2.blk 0 rfl)
        have hws : ws.length ≤ wc := by obtain ⟨_, _, _, _, hx, hy, _⟩ := (h2.own 2 rfl).rd; cases hx; exact hy
        have hb1 : (at_ : Int) ≤ (wc : Int) := by omega
        have hmap : Option.map (fun x => Addr.add x 0) wa = wa := by rcases (h2.own 2 rfl).2.2 with ⟨hx, _⟩ | ⟨g, c2, cur, hx, _⟩ <;> rw [(Value.slice.inj hx).1] <;> first | rfl | simp [add_none]
        generalize hN : ws.length = N at *
        clear hr1 hr2 h2 hwl hN hws
        refine wp_region_canon [(0, false, 8), (1, false, 8), (2, false, 8), (3, false, 8), (4, false, 8), (5, false, 8), (6, false, 8), (7, false, 8), (8, true, 0)] (by kernel_rfl) (by kernel_rfl) ?_
        iterate 8 (refine wpCan_read rfl rfl (fun K hK => ?_); (first | ((refine still_ld _ _ rfl _ _ rfl _ HL.out ?_); go_simp) | go_simp); refine hK _ ?_; clear hK K)
        refine wpCan_eff rfl ?_
        refine wpList_do rfl (fun K hK => ?_)
        go_simp
        refine (free_M en (HD.out.env HS5.out.drew) HRD.out HS5.out.drew).mono ?_
        rw [HTK.out, HENO.out, HF.out]
        rintro e6 w6 ⟨rfl, hk6⟩
        have HS6 := Lib.hid (HS5.out.drew.kept hk6)
        clear hk6 HS5 HL HRD c0 c1 c2 c3 c4 c5 cf hb1 hmap HTK HF
        refine hK _ _ ?_
        clear hK K
        refine wpList_nil ?_
        refine And.intro ?_ ?_
        · go_simp
        refine wpCan_nil ?_
        obtain ⟨hv, wv, hs, ws, hr1, hr2, h2⟩ := queOpen_M HS6.out
        obtain ⟨wa, wc, rfl⟩ := (h2.front 2 rfl).own_shape
        have hwl : ws.length = Q.waits.length := by rw [← hr2.1, List.length_map]
        have HL := Lib.hid (loadM (blk_range (h2.drew.blk 3 rfl)))
        obtain ⟨c0, c1, c2, c3, c4, c5, cf⟩ := cells6 (h2.blk 0 rfl)
        have HR1 := Lib.hid hr1
        have HR2 := Lib.hid hr2
        have hNb : ws.length ≤ 100000 := by omega
        have hat : at_ ≤ ws.length := by omega
        have HS7 := Lib.hid (show Sat B D w6 (qbM q hv (.slice wa ws.length wc) :: entsM hv hs :: ownS tEnM 3 (.slice wa ws.length wc) ws.length (ws.flatMap cellsM) :: blk bz (cellsM en).toArray tEnM :: l) from h2)
        generalize hN : ws.length = N at *
        have HN := Lib.hid hN
        clear hr1 hr2 h2 hwl hN HS6
        go_upto_region 16 with fail
        refine wp_region_canon [(0, false, 11), (1, false, 8), (2, false, 8), (3, false, 8), (4, false, 8), (5, false, 8), (6, false, 7), (7, true, 0), (8, true, 0), (9, false, 11), (10, false, 11), (11, true, 0)] (by kernel_rfl) (by kernel_rfl) ?_
        iterate 7 (refine wpCan_read rfl rfl (fun K hK => ?_); (first | ((refine still_ld _ _ rfl _ _ rfl _ HL.out ?_); go_simp) | go_simp); refine hK _ ?_; clear hK K)
        refine wpCan_eff rfl ?_
        refine wpList_build_one rfl _ _ rfl tEnM i0 _ (cellsM en) rfl Tryz.underlying69 HI.out.1 HI.out.2.1 (HI.out.2.2.1.trans rfl) (by rw [lenM]; decide) (by rw [lenM]; decide) ?_
        refine wpList_nil ?_
        obtain ⟨W8, hW8, hs8⟩ := Sat.hide (HS7.out.drew.alloc (cellsM en).toArray tEnM)
        rw [← hW8]
        clear hW8 HS7 HL c0 c1 c2 c3 c4 c5 cf
        generalize w6.drew.heap.size = by_ at hs8 ⊢
        obtain ⟨c0, c1, c2, c3, c4, c5, cf⟩ := cells6 (hs8.blk 1 rfl)
        have HS8 := Lib.hid (show Sat B D W8 (ownS tEnM 3 (.slice wa N wc) N (ws.flatMap cellsM) :: blk by_ (cellsM en).toArray tEnM :: qbM q hv (.slice wa N wc) :: entsM hv hs :: blk bz (cellsM en).toArray tEnM :: l) from hs8.front 3 rfl)
        clear hs8
        refine And.intro ?_ ?_
        · go_simp
        refine wpCan_eff rfl ?_
        refine wpList_do rfl (fun K hK => ?_)
        go_simp
        refine (insert_M (i := at_) hat (lenM en) (oneM en) by_ (by omega) HS8.out).mono ?_
        rintro e9 w9 ⟨v9, rfl, hs9⟩
        rw [flat_ins lenM] at hs9
        obtain ⟨va, vc, rfl⟩ := hs9.own_shape
        clear c0 c1 c2 c3 c4 c5 cf HS8
        obtain ⟨c0, c1, c2, c3, c4, c5, cf⟩ := cells6 (hs9.blk 2 rfl)
        have HS9 := Lib.hid (Sat.set6 (hs9.front 2 rfl) (.slice va (N + 1) vc))
        clear hs9
        refine hK _ _ ?_
        clear hK K
        refine wpList_nil ?_
        refine And.intro ?_ ?_
        · go_simp
        iterate 2 (refine wpCan_read rfl rfl (fun K hK => ?_); (first | ((refine still_ld _ _ rfl _ _ rfl _ HL.out ?_); go_simp) | go_simp); refine hK _ ?_; clear hK K)
        refine wpCan_eff rfl ?_
        refine wpList_plain rfl (fun K hK => ?_)
        go_simp
        refine hK _ _ ?_
        clear hK K
        refine wpList_nil ?_
        refine And.intro ?_ ?_
        · go_simp
        refine wpCan_nil ?_
        go_wp2_with fail
        go_ret
        rw [HASK.out]
        refine ⟨rfl, ?_⟩
        have h7 := (HS9.out.front 2 rfl).drop
        have h8 : Sat B D (w9.setCell ⟨q, 5, none⟩ (.slice va (N + 1) vc)) (qbM q hv (.slice va (N + 1) vc) :: entsM hv hs :: entsM (.slice va (N + 1) vc) (ws.take at_ ++ [en] ++ ws.drop at_) :: blk bz (cellsM en).toArray tEnM :: l) := by
          show Sat B D _ (qbM q _ _ :: entsM hv hs :: ownS tEnM 3 _ (ws.take at_ ++ [en] ++ ws.drop at_).length _ :: _)
          rw [show (ws.take at_ ++ [en] ++ ws.drop at_).length = N + 1 by simp [HN.out]; omega]
          exact (h7.swap.front 2 rfl).rot.rot
        refine (queShut_M (Q := ⟨Q.held, Q.waits.take at_ ++ [entM en] ++ Q.waits.drop at_⟩) HR1.out ⟨?_, ?_⟩ h8).swap.drop
        · rw [List.map_append, List.map_append, List.map_take, List.map_drop, HR2.out.1]
          rfl
        · intro x hx
          rcases List.mem_append.1 hx with hx | hx
          · rcases List.mem_append.1 hx with hx | hx
            · exact HR2.out.2 x (List.mem_of_mem_take hx)
            · obtain rfl := List.mem_singleton.1 hx
              exact trivial
          · exact HR2.out.2 x (List.mem_of_mem_drop hx)
    · have HF := Lib.hid hf
      have HASK := Lib.hid (show askQ RM Q o (cdM c) b = (giveQ RM Q (entM en), true) by rw [HGO.out b, hf]; simp)
      clear hf
      (try go_upto_region 12 with fail)
      obtain ⟨hv, wv, hs, ws, hr1, hr2, h2⟩ := queOpen_M HS5.out.drew
      obtain ⟨wa, wc, rfl⟩ := (h2.front 2 rfl).own_shape
      have hwl : ws.length = Q.waits.length := by rw [← hr2.1, List.length_map]
      have hat : at_ ≤ ws.length := by omega
      have HRD := Lib.hid (Rd.takeE lenM (h2.own 2 rfl).rd (m := at_) hat rfl)
      have HTK := Lib.hid (show (ws.take at_).map entM = Q.waits.take at_ by rw [List.map_take, hr2.1])
      have HL := Lib.hid (loadM (blk_range (h2.blk 3 rfl)))
      obtain ⟨c0, c1, c2, c3, c4, c5, cf⟩ := cells6 (h2.blk 0 rfl)
      have hws : ws.length ≤ wc := by obtain ⟨_, _, _, _, hx, hy, _⟩ := (h2.own 2 rfl).rd; cases hx; exact hy
      have hb1 : (at_ : Int) ≤ (wc : Int) := by omega
      have hmap : Option.map (fun x => Addr.add x 0) wa = wa := by rcases (h2.own 2 rfl).2.2 with ⟨hx, _⟩ | ⟨g, c2, cur, hx, _⟩ <;> rw [(Value.slice.inj hx).1] <;> first | rfl | simp [add_none]
      generalize hN : ws.length = N at *
      clear hr1 hr2 h2 hwl hN hws
      refine wp_region_canon [(0, false, 8), (1, false, 8), (2, false, 8), (3, false, 8), (4, false, 8), (5, false, 8), (6, false, 8), (7, false, 8), (8, true, 0)] (by kernel_rfl) (by kernel_rfl) ?_
      iterate 8 (refine wpCan_read rfl rfl (fun K hK => ?_); (first | ((refine still_ld _ _ rfl _ _ rfl _ HL.out ?_); go_simp) | go_simp); refine hK _ ?_; clear hK K)
      refine wpCan_eff rfl ?_
      refine wpList_do rfl (fun K hK => ?_)
      go_simp
      refine (free_M en (HD.out.env HS5.out.drew) HRD.out HS5.out.drew).mono ?_
      rw [HTK.out, HENO.out, HF.out]
      rintro e6 w6 ⟨rfl, hk6⟩
      have HS6 := Lib.hid (HS5.out.drew.kept hk6)
      clear hk6 HS5 HL HRD c0 c1 c2 c3 c4 c5 cf hb1 hmap HTK HF
      refine hK _ _ ?_
      clear hK K
      refine wpList_nil ?_
      refine And.intro ?_ ?_
      · go_simp
      refine wpCan_nil ?_
      have HL := Lib.hid (loadM (blk_range (HS6.out.blk 1 rfl)))
      go_wp2_with (first | (refine wpList_ld rfl _ _ rfl _ _ rfl _ HL.out ?_) | (go_at_call 84; refine (give_M en hh HS6.out).mono ?_; rintro e7 w7 ⟨rfl, hs7⟩; have HS7 := Lib.hid hs7; clear hs7 HS6 HL))
      go_ret
      rw [HASK.out]
      exact ⟨rfl, HS7.out.swap.drop⟩
end Go.Proofs.YtkdinhlmghfpeaaGreatDoor
