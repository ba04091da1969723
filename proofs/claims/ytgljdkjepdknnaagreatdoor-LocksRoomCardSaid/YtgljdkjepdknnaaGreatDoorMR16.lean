/- Joined texts: Moving. (printed by genq.py) Dropping; how many there are. (printed by genq.py) -/
import Derived.Test.YtgljdkjepdknnaaGreatDoorMR13
/- Moving. (printed by genq.py) -/
namespace Go.Proofs.YtgljdkjepdknnaaGreatDoor
open Go.ChangeShapes Go.WideShapes Go.ChangeAt Go.RowKit
set_option maxRecDepth 100000
set_option linter.unusedSimpArgs false


theorem waits_in_C {B w : World} {D D' : PH} {l : List HP} {q : Nat} {Q : Qm Clm} (h : Sat B D w (queC D' q Q :: l)) : waitsIn q w = Q.waits.length := by
 obtain ⟨hv, wv, hs, ws, hr1, hr2, h1⟩ := queOpen_C h
 obtain ⟨wa, wc, rfl⟩ := (h1.front 2 rfl).own_shape
 unfold waitsIn
 rw [(cells6 (h1.blk 0 rfl)).2.2.2.2.2.1, ← hr2.1, List.length_map]
def MoveJ_C (B : World) (D : PH) (l : List HP) (q : Nat) (Q : Qm Clm) (M : Nat) (a' : Act) (w' : World) : Prop :=
 ∃ (Q1 : Qm Clm) (out : List Int) (ov u4 u5 u6 u7 u8 u9 u10 u11 u12 u13 u14 u15 u16 u17 u18 u19 u20 u21 u22 u23 u24 u25 u26 u27 u28 u29 u30 u31 u32 u33 u34 u35 u36 u37 u38 u39 u40 u41 u42 u43 u44 u45 : Value), a' = { tmps := #[.pointer (some ⟨q, 0, none⟩), undef, .slice none 0 0, ov, u4, u5, u6, u7, u8, u9, u10, u11, u12, u13, u14, u15, u16, u17, u18, u19, u20, u21, u22, u23, u24, u25, u26, u27, u28, u29, u30, u31, u32, u33, u34, u35, u36, u37, u38, u39, u40, u41, u42, u43, u44, u45], defers := [] } ∧ movedQ RC Q = ((movedQ RC Q1).1, out ++ (movedQ RC Q1).2) ∧ Q1.held.length + Q1.waits.length ≤ M ∧ out.length + Q1.waits.length ≤ M ∧ Sat B D w' (queC D q Q1 :: intsP ov out :: l)
set_option maxHeartbeats 16000000 in
theorem move_C {B w : World} {D : PH} {l : List HP} {q : Nat} {Q : Qm Clm} (hD : EnvD D) (hM : Q.held.length + Q.waits.length ≤ 1000) (h : Sat B D w (queC D q Q :: l)) :
  Calls Tryz.prog 110 #[.pointer (some ⟨q, 0, none⟩)] w fun r w' => ∃ v, r = .returned v ∧ Sat B D w' (queC D q (movedQ RC Q).1 :: intsP v (movedQ RC Q).2 :: l) := by
 obtain ⟨i0, hi, hz0, hz1, hz2⟩ := info_parts infoInt
 have HI := Lib.hid (And.intro hi (And.intro hz0 (And.intro hz1 hz2)))
 have HD := Lib.hid hD
 have HS0 := Lib.hid h
 clear hi hz0 hz1 hz2 h hD
 go_enter Tryz.func110, Tryz.ntmps110
 go_wp2_with fail
 refine wp_scope_jumps 0 (MoveJ_C B D l q Q 1000) (fun _ w' => waitsIn q w') rfl ?_ ?_
 ·go_wp2_with fail
  go_step3
  have hb1 : Q.held.length + Q.waits.length ≤ 1000 := hM
  have hb2 : ([] : List Int).length + Q.waits.length ≤ 1000 := by simp; omega
  have HMV := Lib.hid (show movedQ RC Q = ((movedQ RC Q).1, ([] : List Int) ++ (movedQ RC Q).2) by simp)
  have HS := Lib.hid (show Sat B D w (queC D q Q :: intsP (.slice none 0 0) ([] : List Int) :: l) from (HS0.out.own_nil 3 1).swap)
  clear HS0
  obtain ⟨hv, wv, hs, ws, hr1, hr2, h1⟩ := queOpen_C HS.out
  obtain ⟨wa, wc, rfl⟩ := (h1.front 2 rfl).own_shape
  obtain ⟨N, hN⟩ : ∃ N, N = ws.length := ⟨_, rfl⟩
  have hNQ : Q.waits.length = N := by rw [← hr2.1, List.length_map, hN]
  have HWI := Lib.hid (show waitsIn q w = N by unfold waitsIn; rw [(cells6 (h1.blk 0 rfl)).2.2.2.2.2.1, hN])
  have h1' : Sat B D w (qbC q hv (.slice wa N wc) :: entsC hv hs :: ownS tEnC 18 (.slice wa N wc) N (ws.flatMap cellsC) :: intsP (.slice none 0 0) ([] : List Int) :: l) := by rw [hN]; exact h1
  have HR1 := Lib.hid hr1
  have HR2 := Lib.hid hr2
  have HN := Lib.hid hN.symm
  have HNQ := Lib.hid hNQ
  have hwc : N ≤ wc := by obtain ⟨_, _, _, _, hx, hy, _⟩ := (h1'.own 2 rfl).rd; cases hx; exact hy
  have HS1 := Lib.hid h1'
  obtain ⟨c0, c1, c2, c3, c4, c5, cf⟩ := cells6 (h1'.blk 0 rfl)
  have hNM : N ≤ 1000 := by omega
  clear h1 h1' hr1 hr2 hN hNQ HS
  go_wp2_with fail
  go_loopw [3, 11] (fun o3 ii wr2 => ∃ i : Nat, ii = .int .i64 i ∧ o3 = (.slice none 0 0) ∧ i ≤ N ∧ (∀ j, j < i → canAt RC Q j = false) ∧ Sat B D wr2 (qbC q hv (.slice wa N wc) :: entsC hv hs :: ownS tEnC 18 (.slice wa N wc) N (ws.flatMap cellsC) :: intsP (.slice none 0 0) ([] : List Int) :: l)) (fun _ ii _ => N - (intOf ii).toNat)
  case atStart => exact ⟨0, rfl, rfl, by omega, fun j hj => by omega, HS1.out⟩
  case round =>
   obtain ⟨i, rfl, rfl, hi, hcan, hs2⟩ := hrel
   have HCAN := Lib.hid hcan
   have HS2 := Lib.hid hs2
   clear hcan hs2 HS1 c0 c1 c2 c3 c4 c5 cf
   by_cases hlt : i < N
   ·have hii : (i : Int) < (N : Int) := by omega
    obtain ⟨x, hx⟩ : ∃ x, ws[i]? = some x := ⟨ws[i]'(by rw [HN.out]; exact hlt), List.getElem?_eq_getElem _⟩
    obtain ⟨g, og, rfl, hrng⟩ := elem_range lenC (HS2.out.own 2 rfl).rd hx HN.out
    have HL := Lib.hid (loadC hrng)
    have HX := Lib.hid (show Q.waits[i]? = some (entC x) by rw [← HR2.out.1, List.getElem?_map, hx]; rfl)
    have HXW := Lib.hid hx
    have HS3 := Lib.hid (HS2.out.alloc (cellsC x).toArray tEnC)
    clear hx hrng
    go_upto_region 5 with (first | (refine wpList_ld rfl _ _ rfl _ _ rfl _ HL.out ?_) | (refine wpList_store_new rfl _ _ _ rfl (cellsC x) _ _ rfl rfl (by kernel_rfl) rfl (oneC x) ?_))
    clear HL HS2
    obtain ⟨W4, hW4, hs4⟩ := Sat.hide HS3.out
    rw [← hW4]
    clear hW4 HS3
    generalize wr.heap.size = bx at hs4 ⊢
    have hq4 : Sat B D W4.drew (queC D q Q :: blk bx (cellsC x).toArray tEnC :: intsP (.slice none 0 0) ([] : List Int) :: l) := queShut_C HR1.out HR2.out (by
     show Sat B D W4.drew (qbC q hv (.slice (some ⟨g, og, none⟩) N wc) :: entsC hv hs :: ownS tEnC 18 (.slice (some ⟨g, og, none⟩) N wc) ws.length (ws.flatMap cellsC) :: _)
     rw [HN.out]
     exact ((hs4.drew.front 3 rfl).front 3 rfl).front 3 rfl)
    have HQ4 := Lib.hid hq4
    have HRD := Lib.hid (Rd.takeE lenC (hs4.drew.own 3 rfl).rd (m := i) (by omega) HN.out)
    have HTK := Lib.hid (show (ws.take i).map entC = Q.waits.take i by rw [List.map_take, HR2.out.1])
    have HLB := Lib.hid (loadC (blk_range (hs4.drew.blk 0 rfl)))
    obtain ⟨c0, c1, c2, c3, c4, c5, cf⟩ := cells6 (hs4.blk 1 rfl)
    have HS4 := Lib.hid hs4
    have hb3 : (i : Int) ≤ (wc : Int) := by omega
    have hmap : Option.map (fun x => Addr.add x 0) (some (⟨g, og, none⟩ : Addr)) = some ⟨g, og, none⟩ := by first | rfl | simp [add_none]
    clear hq4 hs4
    have HCE := Lib.hid (can_at (R := RC) HX.out)
    cases hf : canAt RC Q i
    ·rw [hf] at HCE
     have HF := Lib.hid hf
     clear hf
     refine wp_region_canon [(0, false, 8), (1, false, 8), (2, false, 8), (3, false, 8), (4, false, 8), (5, false, 8), (6, false, 8), (7, false, 8), (8, true, 0)] (by kernel_rfl) (by kernel_rfl) ?_
     iterate 8 (refine wpCan_read rfl rfl (fun K hK => ?_); (first | ((refine still_ld _ _ rfl _ _ rfl _ HLB.out ?_); go_simp) | go_simp); refine hK _ ?_; clear hK K)
     refine wpCan_eff rfl ?_
     refine wpList_do rfl (fun K hK => ?_)
     go_simp
     refine (free_C x (HD.out.env HQ4.out) (PH.le.refl _) (HR2.out.2 x (List.mem_of_getElem? HXW.out)) (fun y hy => HR2.out.2 y (List.mem_of_mem_take hy)) HRD.out HQ4.out).mono ?_
     rw [HTK.out, ← HCE.out]
     rintro e6 w6 ⟨rfl, hk6⟩
     have HS6 := Lib.hid ((HS4.out.drew.kept hk6).drop)
     clear hk6 HS4 HQ4 HRD HLB c0 c1 c2 c3 c4 c5 cf hb3 hmap
     refine hK _ _ ?_
     clear hK K
     refine wpList_nil ?_
     refine And.intro ?_ ?_
     ·go_simp
     refine wpCan_nil ?_
     go_wp2_with fail
     go_roundw
     case rel => exact ⟨i + 1, by go_num, rfl, by omega, fun j hj => by rcases Nat.lt_succ_iff_lt_or_eq.1 hj with h | rfl; exact HCAN.out j h; exact HF.out, HS6.out⟩
     case measure => simp [intOf]; omega
    ·rw [hf] at HCE
     have HFF := Lib.hid (first_at (R := RC) (q := Q) (i := i) (by rw [HNQ.out]; exact hlt) HCAN.out hf)
     clear hf
     obtain ⟨n1, rfl⟩ : ∃ n1, N = n1 + 1 := ⟨N - 1, by omega⟩
     have hw1 : IntKind.i64.wrap ((i : Int) + 1) = (i : Int) + 1 := IntWalk.i64_in _ (by omega)
     refine wp_region_canon [(0, false, 8), (1, false, 8), (2, false, 8), (3, false, 8), (4, false, 8), (5, false, 8), (6, false, 8), (7, false, 8), (8, true, 0)] (by kernel_rfl) (by kernel_rfl) ?_
     iterate 8 (refine wpCan_read rfl rfl (fun K hK => ?_); (first | ((refine still_ld _ _ rfl _ _ rfl _ HLB.out ?_); go_simp) | go_simp); refine hK _ ?_; clear hK K)
     refine wpCan_eff rfl ?_
     refine wpList_do rfl (fun K hK => ?_)
     go_simp
     refine (free_C x (HD.out.env HQ4.out) (PH.le.refl _) (HR2.out.2 x (List.mem_of_getElem? HXW.out)) (fun y hy => HR2.out.2 y (List.mem_of_mem_take hy)) HRD.out HQ4.out).mono ?_
     rw [HTK.out, ← HCE.out]
     rintro e6 w6 ⟨rfl, hk6⟩
     have hs6 := HS4.out.drew.kept hk6
     clear hk6 HS4 HQ4 HRD HLB c0 c1 c2 c3 c4 c5 cf hb3 hmap HTK HCE
     obtain ⟨c0, c1, c2, c3, c4, c5, cf⟩ := cells6 (hs6.blk 1 rfl)
     have HS6 := Lib.hid (show Sat B D w6 (ownS tEnC 18 (.slice (some ⟨g, og, none⟩) (n1 + 1) wc) (n1 + 1) (ws.flatMap cellsC) :: blk bx (cellsC x).toArray tEnC :: qbC q hv (.slice (some ⟨g, og, none⟩) (n1 + 1) wc) :: entsC hv hs :: intsP (.slice none 0 0) ([] : List Int) :: l) from hs6.front 3 rfl)
     clear hs6
     refine hK _ _ ?_
     clear hK K
     refine wpList_nil ?_
     refine And.intro ?_ ?_
     ·go_simp
     refine wpCan_nil ?_
     go_upto_region 7 with (go_at_call 156; refine (delete_C (n := n1) (i := i) (flat_delE lenC ws i).symm (by omega) HS6.out).mono ?_; rintro e7 w7 ⟨v7, rfl, hs7⟩; obtain ⟨va, vc, rfl⟩ := hs7.own_shape; clear c0 c1 c2 c3 c4 c5 cf HS6; obtain ⟨c0, c1, c2, c3, c4, c5, cf⟩ := cells6 (hs7.blk 2 rfl); have HS7 := Lib.hid (Sat.set6 (hs7.front 2 rfl) (.slice va n1 vc)); clear hs7)
     obtain ⟨W8, hW8, hs8⟩ := Sat.hide HS7.out
     rw [← hW8]
     clear hW8 HS7 c0 c1 c2 c3 c4 c5 cf hw1
     have hlw : (ws.eraseIdx i).length = n1 := by rw [List.length_eraseIdx_of_lt (by rw [HN.out]; omega), HN.out]; omega
     have hq8 : Sat B D W8 (queC D q ⟨Q.held, Q.waits.eraseIdx i⟩ :: blk bx (cellsC x).toArray tEnC :: intsP (.slice none 0 0) ([] : List Int) :: l) := queShut_C (ws := ws.eraseIdx i) HR1.out ⟨by rw [← HR2.out.1]; simp only [List.eraseIdx_eq_take_drop_succ, List.map_append, List.map_take, List.map_drop], fun y hy => HR2.out.2 y (List.mem_of_mem_eraseIdx hy)⟩ (by
      show Sat B D W8 (qbC q hv (.slice va n1 vc) :: entsC hv hs :: ownS tEnC 18 (.slice va n1 vc) (ws.eraseIdx i).length ((ws.eraseIdx i).flatMap cellsC) :: _)
      rw [hlw]
      exact (hs8.front 3 rfl).front 1 rfl)
     have HQ8 := Lib.hid hq8
     have HLB := Lib.hid (loadC (blk_range (hq8.blk 1 rfl)))
     clear hq8 hs8 hlw
     go_upto_region 8 with (first | (refine wpList_ld rfl _ _ rfl _ _ rfl _ HLB.out ?_) | (go_at_call 136; refine (give_C x (by show Q.held.length ≤ 100000; omega) (PH.le.refl _) (HR2.out.2 x (List.mem_of_getElem? HXW.out)) HQ8.out).mono ?_; rintro e9 w9 ⟨rfl, hs9⟩; have HQ9 := Lib.hid hs9; clear hs9 HQ8 HLB))
     have x0 := (boxC (HQ9.out.blk 1 rfl)).1
     have HS10 := Lib.hid (show Sat B D (w9.alloc (.cells #[.int .i64 (entC x).o] 3)) (ownS 3 1 (.slice none 0 0) ([] : List Int).length (([] : List Int).map (Value.int .i64)) :: blk w9.heap.size #[.int .i64 (entC x).o] 3 :: queC D q (giveQ RC ⟨Q.held, Q.waits.eraseIdx i⟩ (entC x)) :: blk bx (cellsC x).toArray tEnC :: l) from (HQ9.out.alloc _ _).front 3 rfl)
     have HRD := Lib.hid (rd_block (size := 1) (n := 1) (HS10.out.blk 1 rfl) rfl (by unfold maxLen; omega))
     go_wp2_with (at_builtin; refine wpList_append_Sat _ rfl _ _ 42 rfl 3 i0 _ 1 8 Tryz.underlying42 HI.out.1 HI.out.2.1 HI.out.2.2.1 HI.out.2.2.2 rfl _ ([] : List Int).length _ rfl HS10.out _ 1 _ rfl HRD.out (by intro u hu; simp at hu; subst hu; rfl) (by unfold maxLen; omega) (by omega) ?_; intro v11 w11 hs11 h11; have HS11 := Lib.hid hs11; clear hs11 HS10 HRD HQ9 x0)
     go_step3
     have hmv := moved_some (R := RC) HFF.out HX.out
     have hlen1 := giveL_len (R := RC) Q.held (entC x)
     have hlen2 : (Q.waits.eraseIdx i).length = n1 := by rw [List.length_eraseIdx_of_lt (by rw [HNQ.out]; omega), HNQ.out]; omega
     have hs12 : Sat B D w11 (queC D q (giveQ RC ⟨Q.held, Q.waits.eraseIdx i⟩ (entC x)) :: intsP v11 (([] : List Int) ++ [(entC x).o]) :: l) := by
      show Sat B D w11 (_ :: ownS 3 1 v11 (([] : List Int) ++ [(entC x).o]).length ((([] : List Int) ++ [(entC x).o]).map (Value.int .i64)) :: l)
      rw [List.length_append, List.map_append]
      exact ((HS11.out.swap.drop).front 2 rfl).drop.front 1 rfl
     refine ⟨rfl, giveQ RC ⟨Q.held, Q.waits.eraseIdx i⟩ (entC x), ([] : List Int) ++ [(entC x).o], v11, _, _, _, _, _, _, _, _, _, _, _, _, _, _, _, _, _, _, _, _, _, _, _, _, _, _, _, _, _, _, _, _, _, _, _, _, _, _, _, _, _, _, rfl, ?_, ?_, ?_, hs12⟩
     ·rw [HMV.out, hmv]; simp
     ·show (giveL RC Q.held (entC x)).length + (Q.waits.eraseIdx i).length ≤ 1000
      have := HNQ.out
      omega
     ·show (([] : List Int) ++ [(entC x).o]).length + (Q.waits.eraseIdx i).length ≤ 1000
      have := HNQ.out
      rw [List.length_append, List.length_singleton]
      omega
   ·have hii : ¬ ((i : Int) < (N : Int)) := by omega
    have HNO := Lib.hid (moved_none (R := RC) (first_no (q := Q) (fun j hj => HCAN.out j (by rw [HNQ.out] at hj; omega))))
    go_wp2_with fail
    simp only [Exit.jump]
    go_ret
    refine ⟨_, rfl, ?_⟩
    rw [HMV.out, HNO.out, List.append_nil]
    refine queShut_C (hv := hv) (wv := .slice wa N wc) HR1.out HR2.out ?_
    show Sat B D wr (qbC q hv (.slice wa N wc) :: entsC hv hs :: ownS tEnC 18 (.slice wa N wc) ws.length (ws.flatMap cellsC) :: intsP (.slice none 0 0) ([] : List Int) :: l)
    rw [HN.out]
    exact HS2.out
 ·rintro a1 wr ⟨Q1, out, ov, u4, u5, u6, u7, u8, u9, u10, u11, u12, u13, u14, u15, u16, u17, u18, u19, u20, u21, u22, u23, u24, u25, u26, u27, u28, u29, u30, u31, u32, u33, u34, u35, u36, u37, u38, u39, u40, u41, u42, u43, u44, u45, rfl, hmv, hb1, hb2, hs⟩
  have HMV := Lib.hid hmv
  have HS := Lib.hid hs
  obtain ⟨oa, oc, rfl⟩ := (hs.front 1 rfl).own_shape
  clear hmv hs HS0
  obtain ⟨hv, wv, hs, ws, hr1, hr2, h1⟩ := queOpen_C HS.out
  obtain ⟨wa, wc, rfl⟩ := (h1.front 2 rfl).own_shape
  obtain ⟨N, hN⟩ : ∃ N, N = ws.length := ⟨_, rfl⟩
  have hNQ : Q1.waits.length = N := by rw [← hr2.1, List.length_map, hN]
  have HWI := Lib.hid (show waitsIn q wr = N by unfold waitsIn; rw [(cells6 (h1.blk 0 rfl)).2.2.2.2.2.1, hN])
  have h1' : Sat B D wr (qbC q hv (.slice wa N wc) :: entsC hv hs :: ownS tEnC 18 (.slice wa N wc) N (ws.flatMap cellsC) :: intsP (.slice oa out.length oc) out :: l) := by rw [hN]; exact h1
  have HR1 := Lib.hid hr1
  have HR2 := Lib.hid hr2
  have HN := Lib.hid hN.symm
  have HNQ := Lib.hid hNQ
  have hwc : N ≤ wc := by obtain ⟨_, _, _, _, hx, hy, _⟩ := (h1'.own 2 rfl).rd; cases hx; exact hy
  have HS1 := Lib.hid h1'
  obtain ⟨c0, c1, c2, c3, c4, c5, cf⟩ := cells6 (h1'.blk 0 rfl)
  have hNM : N ≤ 1000 := by omega
  clear h1 h1' hr1 hr2 hN hNQ HS
  go_wp2_with fail
  go_loopw [3, 11] (fun o3 ii wr2 => ∃ i : Nat, ii = .int .i64 i ∧ o3 = (.slice oa out.length oc) ∧ i ≤ N ∧ (∀ j, j < i → canAt RC Q1 j = false) ∧ Sat B D wr2 (qbC q hv (.slice wa N wc) :: entsC hv hs :: ownS tEnC 18 (.slice wa N wc) N (ws.flatMap cellsC) :: intsP (.slice oa out.length oc) out :: l)) (fun _ ii _ => N - (intOf ii).toNat)
  case atStart => exact ⟨0, rfl, rfl, by omega, fun j hj => by omega, HS1.out⟩
  case round =>
   obtain ⟨i, rfl, rfl, hi, hcan, hs2⟩ := hrel
   have HCAN := Lib.hid hcan
   have HS2 := Lib.hid hs2
   clear hcan hs2 HS1 c0 c1 c2 c3 c4 c5 cf
   by_cases hlt : i < N
   ·have hii : (i : Int) < (N : Int) := by omega
    obtain ⟨x, hx⟩ : ∃ x, ws[i]? = some x := ⟨ws[i]'(by rw [HN.out]; exact hlt), List.getElem?_eq_getElem _⟩
    obtain ⟨g, og, rfl, hrng⟩ := elem_range lenC (HS2.out.own 2 rfl).rd hx HN.out
    have HL := Lib.hid (loadC hrng)
    have HX := Lib.hid (show Q1.waits[i]? = some (entC x) by rw [← HR2.out.1, List.getElem?_map, hx]; rfl)
    have HXW := Lib.hid hx
    have HS3 := Lib.hid (HS2.out.alloc (cellsC x).toArray tEnC)
    clear hx hrng
    go_upto_region 5 with (first | (refine wpList_ld rfl _ _ rfl _ _ rfl _ HL.out ?_) | (refine wpList_store_new rfl _ _ _ rfl (cellsC x) _ _ rfl rfl (by kernel_rfl) rfl (oneC x) ?_))
    clear HL HS2
    obtain ⟨W4, hW4, hs4⟩ := Sat.hide HS3.out
    rw [← hW4]
    clear hW4 HS3
    generalize wr.heap.size = bx at hs4 ⊢
    have hq4 : Sat B D W4.drew (queC D q Q1 :: blk bx (cellsC x).toArray tEnC :: intsP (.slice oa out.length oc) out :: l) := queShut_C HR1.out HR2.out (by
     show Sat B D W4.drew (qbC q hv (.slice (some ⟨g, og, none⟩) N wc) :: entsC hv hs :: ownS tEnC 18 (.slice (some ⟨g, og, none⟩) N wc) ws.length (ws.flatMap cellsC) :: _)
     rw [HN.out]
     exact ((hs4.drew.front 3 rfl).front 3 rfl).front 3 rfl)
    have HQ4 := Lib.hid hq4
    have HRD := Lib.hid (Rd.takeE lenC (hs4.drew.own 3 rfl).rd (m := i) (by omega) HN.out)
    have HTK := Lib.hid (show (ws.take i).map entC = Q1.waits.take i by rw [List.map_take, HR2.out.1])
    have HLB := Lib.hid (loadC (blk_range (hs4.drew.blk 0 rfl)))
    obtain ⟨c0, c1, c2, c3, c4, c5, cf⟩ := cells6 (hs4.blk 1 rfl)
    have HS4 := Lib.hid hs4
    have hb3 : (i : Int) ≤ (wc : Int) := by omega
    have hmap : Option.map (fun x => Addr.add x 0) (some (⟨g, og, none⟩ : Addr)) = some ⟨g, og, none⟩ := by first | rfl | simp [add_none]
    clear hq4 hs4
    have HCE := Lib.hid (can_at (R := RC) HX.out)
    cases hf : canAt RC Q1 i
    ·rw [hf] at HCE
     have HF := Lib.hid hf
     clear hf
     refine wp_region_canon [(0, false, 8), (1, false, 8), (2, false, 8), (3, false, 8), (4, false, 8), (5, false, 8), (6, false, 8), (7, false, 8), (8, true, 0)] (by kernel_rfl) (by kernel_rfl) ?_
     iterate 8 (refine wpCan_read rfl rfl (fun K hK => ?_); (first | ((refine still_ld _ _ rfl _ _ rfl _ HLB.out ?_); go_simp) | go_simp); refine hK _ ?_; clear hK K)
     refine wpCan_eff rfl ?_
     refine wpList_do rfl (fun K hK => ?_)
     go_simp
     refine (free_C x (HD.out.env HQ4.out) (PH.le.refl _) (HR2.out.2 x (List.mem_of_getElem? HXW.out)) (fun y hy => HR2.out.2 y (List.mem_of_mem_take hy)) HRD.out HQ4.out).mono ?_
     rw [HTK.out, ← HCE.out]
     rintro e6 w6 ⟨rfl, hk6⟩
     have HS6 := Lib.hid ((HS4.out.drew.kept hk6).drop)
     clear hk6 HS4 HQ4 HRD HLB c0 c1 c2 c3 c4 c5 cf hb3 hmap
     refine hK _ _ ?_
     clear hK K
     refine wpList_nil ?_
     refine And.intro ?_ ?_
     ·go_simp
     refine wpCan_nil ?_
     go_wp2_with fail
     go_roundw
     case rel => exact ⟨i + 1, by go_num, rfl, by omega, fun j hj => by rcases Nat.lt_succ_iff_lt_or_eq.1 hj with h | rfl; exact HCAN.out j h; exact HF.out, HS6.out⟩
     case measure => simp [intOf]; omega
    ·rw [hf] at HCE
     have HFF := Lib.hid (first_at (R := RC) (q := Q1) (i := i) (by rw [HNQ.out]; exact hlt) HCAN.out hf)
     clear hf
     obtain ⟨n1, rfl⟩ : ∃ n1, N = n1 + 1 := ⟨N - 1, by omega⟩
     have hw1 : IntKind.i64.wrap ((i : Int) + 1) = (i : Int) + 1 := IntWalk.i64_in _ (by omega)
     refine wp_region_canon [(0, false, 8), (1, false, 8), (2, false, 8), (3, false, 8), (4, false, 8), (5, false, 8), (6, false, 8), (7, false, 8), (8, true, 0)] (by kernel_rfl) (by kernel_rfl) ?_
     iterate 8 (refine wpCan_read rfl rfl (fun K hK => ?_); (first | ((refine still_ld _ _ rfl _ _ rfl _ HLB.out ?_); go_simp) | go_simp); refine hK _ ?_; clear hK K)
     refine wpCan_eff rfl ?_
     refine wpList_do rfl (fun K hK => ?_)
     go_simp
     refine (free_C x (HD.out.env HQ4.out) (PH.le.refl _) (HR2.out.2 x (List.mem_of_getElem? HXW.out)) (fun y hy => HR2.out.2 y (List.mem_of_mem_take hy)) HRD.out HQ4.out).mono ?_
     rw [HTK.out, ← HCE.out]
     rintro e6 w6 ⟨rfl, hk6⟩
     have hs6 := HS4.out.drew.kept hk6
     clear hk6 HS4 HQ4 HRD HLB c0 c1 c2 c3 c4 c5 cf hb3 hmap HTK HCE
     obtain ⟨c0, c1, c2, c3, c4, c5, cf⟩ := cells6 (hs6.blk 1 rfl)
     have HS6 := Lib.hid (show Sat B D w6 (ownS tEnC 18 (.slice (some ⟨g, og, none⟩) (n1 + 1) wc) (n1 + 1) (ws.flatMap cellsC) :: blk bx (cellsC x).toArray tEnC :: qbC q hv (.slice (some ⟨g, og, none⟩) (n1 + 1) wc) :: entsC hv hs :: intsP (.slice oa out.length oc) out :: l) from hs6.front 3 rfl)
     clear hs6
     refine hK _ _ ?_
     clear hK K
     refine wpList_nil ?_
     refine And.intro ?_ ?_
     ·go_simp
     refine wpCan_nil ?_
     go_upto_region 7 with (go_at_call 156; refine (delete_C (n := n1) (i := i) (flat_delE lenC ws i).symm (by omega) HS6.out).mono ?_; rintro e7 w7 ⟨v7, rfl, hs7⟩; obtain ⟨va, vc, rfl⟩ := hs7.own_shape; clear c0 c1 c2 c3 c4 c5 cf HS6; obtain ⟨c0, c1, c2, c3, c4, c5, cf⟩ := cells6 (hs7.blk 2 rfl); have HS7 := Lib.hid (Sat.set6 (hs7.front 2 rfl) (.slice va n1 vc)); clear hs7)
     obtain ⟨W8, hW8, hs8⟩ := Sat.hide HS7.out
     rw [← hW8]
     clear hW8 HS7 c0 c1 c2 c3 c4 c5 cf hw1
     have hlw : (ws.eraseIdx i).length = n1 := by rw [List.length_eraseIdx_of_lt (by rw [HN.out]; omega), HN.out]; omega
     have hq8 : Sat B D W8 (queC D q ⟨Q1.held, Q1.waits.eraseIdx i⟩ :: blk bx (cellsC x).toArray tEnC :: intsP (.slice oa out.length oc) out :: l) := queShut_C (ws := ws.eraseIdx i) HR1.out ⟨by rw [← HR2.out.1]; simp only [List.eraseIdx_eq_take_drop_succ, List.map_append, List.map_take, List.map_drop], fun y hy => HR2.out.2 y (List.mem_of_mem_eraseIdx hy)⟩ (by
      show Sat B D W8 (qbC q hv (.slice va n1 vc) :: entsC hv hs :: ownS tEnC 18 (.slice va n1 vc) (ws.eraseIdx i).length ((ws.eraseIdx i).flatMap cellsC) :: _)
      rw [hlw]
      exact (hs8.front 3 rfl).front 1 rfl)
     have HQ8 := Lib.hid hq8
     have HLB := Lib.hid (loadC (blk_range (hq8.blk 1 rfl)))
     clear hq8 hs8 hlw
     go_upto_region 8 with (first | (refine wpList_ld rfl _ _ rfl _ _ rfl _ HLB.out ?_) | (go_at_call 136; refine (give_C x (by show Q1.held.length ≤ 100000; omega) (PH.le.refl _) (HR2.out.2 x (List.mem_of_getElem? HXW.out)) HQ8.out).mono ?_; rintro e9 w9 ⟨rfl, hs9⟩; have HQ9 := Lib.hid hs9; clear hs9 HQ8 HLB))
     have x0 := (boxC (HQ9.out.blk 1 rfl)).1
     have HS10 := Lib.hid (show Sat B D (w9.alloc (.cells #[.int .i64 (entC x).o] 3)) (ownS 3 1 (.slice oa out.length oc) out.length (out.map (Value.int .i64)) :: blk w9.heap.size #[.int .i64 (entC x).o] 3 :: queC D q (giveQ RC ⟨Q1.held, Q1.waits.eraseIdx i⟩ (entC x)) :: blk bx (cellsC x).toArray tEnC :: l) from (HQ9.out.alloc _ _).front 3 rfl)
     have HRD := Lib.hid (rd_block (size := 1) (n := 1) (HS10.out.blk 1 rfl) rfl (by unfold maxLen; omega))
     go_wp2_with (at_builtin; refine wpList_append_Sat _ rfl _ _ 42 rfl 3 i0 _ 1 8 Tryz.underlying42 HI.out.1 HI.out.2.1 HI.out.2.2.1 HI.out.2.2.2 rfl _ out.length _ rfl HS10.out _ 1 _ rfl HRD.out (by intro u hu; simp at hu; subst hu; rfl) (by unfold maxLen; omega) (by omega) ?_; intro v11 w11 hs11 h11; have HS11 := Lib.hid hs11; clear hs11 HS10 HRD HQ9 x0)
     go_step3
     have hmv := moved_some (R := RC) HFF.out HX.out
     have hlen1 := giveL_len (R := RC) Q1.held (entC x)
     have hlen2 : (Q1.waits.eraseIdx i).length = n1 := by rw [List.length_eraseIdx_of_lt (by rw [HNQ.out]; omega), HNQ.out]; omega
     have hs12 : Sat B D w11 (queC D q (giveQ RC ⟨Q1.held, Q1.waits.eraseIdx i⟩ (entC x)) :: intsP v11 (out ++ [(entC x).o]) :: l) := by
      show Sat B D w11 (_ :: ownS 3 1 v11 (out ++ [(entC x).o]).length ((out ++ [(entC x).o]).map (Value.int .i64)) :: l)
      rw [List.length_append, List.map_append]
      exact ((HS11.out.swap.drop).front 2 rfl).drop.front 1 rfl
     refine ⟨rfl, ⟨giveQ RC ⟨Q1.held, Q1.waits.eraseIdx i⟩ (entC x), out ++ [(entC x).o], v11, _, _, _, _, _, _, _, _, _, _, _, _, _, _, _, _, _, _, _, _, _, _, _, _, _, _, _, _, _, _, _, _, _, _, _, _, _, _, _, _, _, _, rfl, ?_, ?_, ?_, hs12⟩, ?_⟩
     ·rw [HMV.out, hmv]; simp
     ·show (giveL RC Q1.held (entC x)).length + (Q1.waits.eraseIdx i).length ≤ 1000
      have := HNQ.out
      omega
     ·show (out ++ [(entC x).o]).length + (Q1.waits.eraseIdx i).length ≤ 1000
      have := HNQ.out
      rw [List.length_append, List.length_singleton]
      omega
     ·rw [HWI.out, waits_in_C hs12]
      show (Q1.waits.eraseIdx i).length < n1 + 1
      omega
   ·have hii : ¬ ((i : Int) < (N : Int)) := by omega
    have HNO := Lib.hid (moved_none (R := RC) (first_no (q := Q1) (fun j hj => HCAN.out j (by rw [HNQ.out] at hj; omega))))
    go_wp2_with fail
    simp only [Exit.jump]
    go_ret
    refine ⟨_, rfl, ?_⟩
    rw [HMV.out, HNO.out, List.append_nil]
    refine queShut_C (hv := hv) (wv := .slice wa N wc) HR1.out HR2.out ?_
    show Sat B D wr (qbC q hv (.slice wa N wc) :: entsC hv hs :: ownS tEnC 18 (.slice wa N wc) ws.length (ws.flatMap cellsC) :: intsP (.slice oa out.length oc) out :: l)
    rw [HN.out]
    exact HS2.out
end Go.Proofs.YtgljdkjepdknnaaGreatDoor

/- Dropping; how many there are. (printed by genq.py) -/
namespace Go.Proofs.YtgljdkjepdknnaaGreatDoor
open Go.ChangeShapes Go.WideShapes Go.ChangeAt Go.RowKit
set_option maxRecDepth 100000
set_option linter.unusedSimpArgs false


set_option maxHeartbeats 4000000 in
theorem drop_C {B w : World} {D : PH} {l : List HP} {q F : Nat} {caps : Array Value} {Q : Qm Clm} (p : Ent Clm → Bool) (hD : EnvD D) (hM : Q.held.length + Q.waits.length ≤ 1000) (hent : Enters Tryz.prog F) (HF : ∀ x : EntE,
  OkC D x →
  ∀ (hv wv : Value) (ws : List (EntE)), PredS B D (qbC q hv wv :: entsC wv ws :: l) F caps (cellsC x) (p (entC x))) (h : Sat B D w (queC D q Q :: l)) :
  Calls Tryz.prog 111 #[.pointer (some ⟨q, 0, none⟩), .func (.func F) #[] caps] w fun r w' => ∃ v, r = .returned v ∧ Sat B D w' (queC D q (dropQ RC Q p).1 :: intsP v (dropQ RC Q p).2 :: l) := by
 obtain ⟨hv, wv, hs, ws, hr1, hr2, h1⟩ := queOpen_C h
 obtain ⟨ha, hc, rfl⟩ := (h1.front 1 rfl).own_shape
 obtain ⟨c0, c1, c2, c3, c4, c5, cf⟩ := cells6 (h1.blk 0 rfl)
 have HDEL := Lib.hid (deleteFunc_C (F := F) (caps := caps) (fun x => p (entC x)) rfl hent (h1.front 1 rfl) (fun x hx => (HF x
  (hr1.2 x hx)
  _ _ _)))
 have HR1 := Lib.hid hr1
 have HR2 := Lib.hid hr2
 have HD := Lib.hid hD
 clear h h1 hr1 hr2 hent HF hD
 go_enter Tryz.func111, Tryz.ntmps111
 go_upto_region 2 with (go_at_call 108; refine HDEL.out.mono ?_; rintro e1 w1 ⟨v1, rfl, hs1⟩; obtain ⟨va, vc, rfl⟩ := hs1.own_shape; clear c0 c1 c2 c3 c4 c5 cf HDEL; obtain ⟨c0, c1, c2, c3, c4, c5, cf⟩ := cells6 (hs1.blk 1 rfl); have HS1 := Lib.hid (Sat.set5 (hs1.front 1 rfl) (.slice va (hs.filter (fun x => !p (entC x))).length vc)); clear hs1)
 obtain ⟨W2, hW2, hs2⟩ := Sat.hide HS1.out
 rw [← hW2]
 clear hW2 HS1 c0 c1 c2 c3 c4 c5 cf
 have hq2 : Sat B D W2 (queC D q ⟨Q.held.filter (fun e => !p e), Q.waits⟩ :: l) := queShut_C (hs := hs.filter (fun x => !p (entC x))) ⟨by rw [← HR1.out.1, List.filter_map]; rfl, fun x hx => HR1.out.2 x (List.mem_filter.1 hx).1⟩ HR2.out hs2
 have HMV := Lib.hid (move_C HD.out (by have := List.length_filter_le (fun e => !p e) Q.held; show (Q.held.filter _).length + Q.waits.length ≤ 1000; omega) hq2)
 clear hs2 hq2
 go_wp2_with (go_at_call 110; refine HMV.out.mono ?_; rintro e3 w3 ⟨v3, rfl, hs3⟩; have HS3 := Lib.hid hs3; clear hs3 HMV)
 go_ret
 exact ⟨_, rfl, HS3.out⟩
set_option maxHeartbeats 2000000 in
theorem Clear_C {B w : World} {D : PH} {l : List HP} {q : Nat} {Q : Qm Clm} (o : Int) (hD : EnvD D) (hM : Q.held.length + Q.waits.length ≤ 1000) (h : Sat B D w (queC D q Q :: l)) :
  Calls Tryz.prog 67 #[.pointer (some ⟨q, 0, none⟩), .int .i64 o] w fun r w' => ∃ v, r = .returned v ∧ Sat B D w' (queC D q (dropQ RC Q (ofE o)).1 :: intsP v (dropQ RC Q (ofE o)).2 :: l) := by
 obtain ⟨W1, hW1, hs1⟩ := Sat.hide (h.alloc #[.int .i64 o] 3)
 have HW1 := Lib.hid hW1
 have HDR := Lib.hid (drop_C (l := blk w.heap.size #[.int .i64 o] 3 :: l) (F := 112) (caps := #[.pointer (some ⟨w.heap.size, 0, none⟩)]) (ofE o) hD hM (enters_of Tryz.func112 (by kernel_rfl) rfl) (fun x
  _
  _ _ _ W X hx => (clearF_C (hx.blk (X.length + 2) (by simp)) x).2 W (Kept.refl _ _)) hs1.swap)
 clear h hs1 hW1 hD
 go_enter Tryz.func67, Tryz.ntmps67
 go_upto_region 1 with fail
 rw [← HW1.out]
 clear HW1
 generalize w.heap.size = bx at HDR ⊢
 go_wp2_with (go_at_call 111; refine HDR.out.mono ?_; rintro e1 w1 ⟨v1, rfl, hs1⟩; have HS1 := Lib.hid hs1; clear hs1 HDR)
 go_ret
 exact ⟨_, rfl, (HS1.out.front 2 rfl).drop⟩
set_option maxHeartbeats 2000000 in
theorem Len_C {B w : World} {D : PH} {l : List HP} {q : Nat} {Q : Qm Clm} (hM : Q.held.length + Q.waits.length ≤ 1000000) (h : Sat B D w (queC D q Q :: l)) :
  Calls Tryz.prog 44 #[.pointer (some ⟨q, 0, none⟩)] w fun r w' => r = .returned (.int .i64 ((Q.held.length + Q.waits.length : Nat) : Int)) ∧ Kept (fun _ => False) w w' := by
 obtain ⟨hv, wv, hs, ws, hr1, hr2, h1⟩ := queOpen_C h
 obtain ⟨ha, hc, rfl⟩ := (h1.front 1 rfl).own_shape
 obtain ⟨wa, wc, rfl⟩ := (h1.front 2 rfl).own_shape
 have e1 : hs.length = Q.held.length := by rw [← hr1.1, List.length_map]
 have e2 : ws.length = Q.waits.length := by rw [← hr2.1, List.length_map]
 obtain ⟨c0, c1, c2, c3, c4, c5, cf⟩ := cells6 (h1.blk 0 rfl)
 rw [e1] at c4
 rw [e2] at c5
 have HK := Lib.hid ((Kept.refl (fun _ => False) w).drew)
 clear h h1 hr1 hr2 e1 e2
 generalize Q.held.length = n at *
 generalize Q.waits.length = m at *
 have hw : IntKind.i64.wrap ((n : Int) + (m : Int)) = (n : Int) + (m : Int) := IntWalk.i64_in _ (by omega)
 go_enter Tryz.func44, Tryz.ntmps44
 go_upto_region 3 with fail
 refine wp_region_canon [(0, false, 999), (1, false, 999), (2, false, 999), (3, false, 999), (4, false, 999), (5, false, 999), (6, false, 999), (7, false, 999), (8, false, 999), (9, false, 999), (10, false, 999), (11, false, 999)] (by kernel_rfl) (by kernel_rfl) ?_
 iterate 12 (refine wpCan_read rfl rfl (fun K hK => ?_); go_simp; refine hK _ ?_; clear hK K)
 refine wpCan_nil ?_
 go_wp2_with fail
 go_ret
 exact ⟨by go_num, HK.out⟩
end Go.Proofs.YtgljdkjepdknnaaGreatDoor
