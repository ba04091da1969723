/- Joined texts: Moving. (printed by genq.py) Dropping; how many there are. (printed by genq.py) -/
import Derived.Test.YtgljdkjepdknnaaGreatDoorML11
set_option maxHeartbeats 64000000
namespace Go.Proofs.YtgljdkjepdknnaaGreatDoor
open Go.ChangeShapes Go.WideShapes Go.ChangeAt Go.RowKit
set_option maxRecDepth 100000
set_option linter.unusedSimpArgs false
theorem pM {B w : World} {D D' : PH} {l : List HP} {q : Nat} {Q : Qm Clm} (h : Sat B D w (bZ D' q Q :: l)) : gF q w = Q.waits.length := by
 obtain ⟨hv, wv, hs, ws, hr1, hr2, h1⟩ := aU h
 obtain ⟨wa, wc, rfl⟩ := (h1.front 2 rfl).own_shape
 unfold gF
 rw [(aX (h1.blk 0 rfl)).2.2.2.2.2.1, ← hr2.1, List.length_map]
def MoveJ_C (B : World) (D : PH) (l : List HP) (q : Nat) (Q : Qm Clm) (M : Nat) (a' : Act) (w' : World) : Prop :=
 ∃ (Q1 : Qm Clm) (out : List Int) (ov u4 u5 u6 u7 u8 u9 u10 u11 u12 u13 u14 u15 u16 u17 u18 u19 u20 u21 u22 u23 u24 u25 u26 u27 u28 u29 u30 u31 u32 u33 u34 u35 u36 u37 u38 u39 u40 u41 u42 u43 u44 u45 : Value), a' = { tmps := #[.pointer (some ⟨q, 0, none⟩), undef, .slice none 0 0, ov, u4, u5, u6, u7, u8, u9, u10, u11, u12, u13, u14, u15, u16, u17, u18, u19, u20, u21, u22, u23, u24, u25, u26, u27, u28, u29, u30, u31, u32, u33, u34, u35, u36, u37, u38, u39, u40, u41, u42, u43, u44, u45], defers := [] } ∧ bS RC Q = ((bS RC Q1).1, out ++ (bS RC Q1).2) ∧ Q1.held.length + Q1.waits.length ≤ M ∧ out.length + Q1.waits.length ≤ M ∧ Sat B D w' (bZ D q Q1 :: cj ov out :: l)
theorem tT {B w : World} {D : PH} {l : List HP} {q : Nat} {Q : Qm Clm} (hD : EnvD D) (hM : Q.held.length + Q.waits.length ≤ 1000) (h : Sat B D w (bZ D q Q :: l)) :
  Calls Tryz.prog 110 #[.pointer (some ⟨q, 0, none⟩)] w fun r w' => ∃ v, r = .returned v ∧ Sat B D w' (bZ D q (bS RC Q).1 :: cj v (bS RC Q).2 :: l) := by
 obtain ⟨i0, hi, hz0, hz1, hz2⟩ := info_parts iu
 have HI := Eh (And.intro hi (And.intro hz0 (And.intro hz1 hz2)))
 have HD := Eh hD
 have wt := Eh h
 clear hi hz0 hz1 hz2 h hD
 go_enter Tryz.func110, Tryz.ntmps110
 go_wp2_with fail
 refine wp_scope_jumps 0 (MoveJ_C B D l q Q 1000) (fun _ w' => gF q w') rfl ?_ ?_
 ·go_wp2_with fail
  go_step3
  have hb1 : Q.held.length + Q.waits.length ≤ 1000 := hM
  have hb2 : ([] : List Int).length + Q.waits.length ≤ 1000 := by simp; omega
  have xY := Eh (show bS RC Q = ((bS RC Q).1, ([] : List Int) ++ (bS RC Q).2) by simp)
  have HS := Eh (show Sat B D w (bZ D q Q :: cj (.slice none 0 0) ([] : List Int) :: l) from (wt.out.own_nil 3 1).swap)
  clear wt
  obtain ⟨hv, wv, hs, ws, hr1, hr2, h1⟩ := aU HS.out
  obtain ⟨wa, wc, rfl⟩ := (h1.front 2 rfl).own_shape
  obtain ⟨N, hN⟩ : ∃ N, N = ws.length := ⟨_, rfl⟩
  have hNQ : Q.waits.length = N := by rw [← hr2.1, List.length_map, hN]
  have C7 := Eh (show gF q w = N by unfold gF; rw [(aX (h1.blk 0 rfl)).2.2.2.2.2.1, hN])
  have h1' : Sat B D w (qbC q hv (.slice wa N wc) :: bN hv hs :: aI bg 18 (.slice wa N wc) N (ws.flatMap ay) :: cj (.slice none 0 0) ([] : List Int) :: l) := by rw [hN]; exact h1
  have wL := Eh hr1
  have vZ := Eh hr2
  have HN := Eh hN.symm
  have yZ := Eh hNQ
  have hwc : N ≤ wc := by obtain ⟨_, _, _, _, hx, hy, _⟩ := (h1'.own 2 rfl).rd; cases hx; exact hy
  have uX := Eh h1'
  obtain ⟨c0, c1, c2, c3, c4, c5, cf⟩ := aX (h1'.blk 0 rfl)
  have hNM : N ≤ 1000 := by omega
  clear h1 h1' hr1 hr2 hN hNQ HS
  go_wp2_with fail
  go_loopw [3, 11] (fun o3 ii wr2 => ∃ i : Nat, ii = .int .i64 i ∧ o3 = (.slice none 0 0) ∧ i ≤ N ∧ (∀ j, j < i → eU RC Q j = false) ∧ Sat B D wr2 (qbC q hv (.slice wa N wc) :: bN hv hs :: aI bg 18 (.slice wa N wc) N (ws.flatMap ay) :: cj (.slice none 0 0) ([] : List Int) :: l)) (fun _ ii _ => N - (intOf ii).toNat)
  case atStart => exact ⟨0, rfl, rfl, by omega, fun j hj => by omega, uX.out⟩
  case round =>
   obtain ⟨i, rfl, rfl, hi, hcan, hs2⟩ := hrel
   have xt := Eh hcan
   have vg := Eh hs2
   clear hcan hs2 uX c0 c1 c2 c3 c4 c5 cf
   by_cases hlt : i < N
   ·have hii : (i : Int) < (N : Int) := by omega
    obtain ⟨x, hx⟩ : ∃ x, ws[i]? = some x := ⟨ws[i]'(by rw [HN.out]; exact hlt), List.getElem?_eq_getElem _⟩
    obtain ⟨g, og, rfl, hrng⟩ := aF bT (vg.out.own 2 rfl).rd hx HN.out
    have HL := Eh (dy hrng)
    have HX := Eh (show Q.waits[i]? = some (aE x) by rw [← vZ.out.1, List.getElem?_map, hx]; rfl)
    have AR := Eh hx
    have uY := Eh (vg.out.alloc (ay x).toArray bg)
    clear hx hrng
    go_upto_region 5 with (first | (refine ai rfl _ _ rfl _ _ rfl _ HL.out ?_) | (refine ax rfl _ _ _ rfl (ay x) _ _ rfl rfl (by kernel_rfl) rfl (eE x) ?_))
    clear HL vg
    obtain ⟨W4, hW4, hs4⟩ := Sat.hide uY.out
    rw [← hW4]
    clear hW4 uY
    generalize wr.heap.size = bx at hs4 ⊢
    have hq4 : Sat B D W4.drew (bZ D q Q :: blk bx (ay x).toArray bg :: cj (.slice none 0 0) ([] : List Int) :: l) := cB wL.out vZ.out (by
     show Sat B D W4.drew (qbC q hv (.slice (some ⟨g, og, none⟩) N wc) :: bN hv hs :: aI bg 18 (.slice (some ⟨g, og, none⟩) N wc) ws.length (ws.flatMap ay) :: _)
     rw [HN.out]
     exact ((hs4.drew.front 3 rfl).front 3 rfl).front 3 rfl)
    have y9 := Eh hq4
    have vk := Eh (Rd.takeE bT (hs4.drew.own 3 rfl).rd (m := i) (by omega) HN.out)
    have wP := Eh (show (ws.take i).map aE = Q.waits.take i by rw [List.map_take, vZ.out.1])
    have xI := Eh (dy (ak (hs4.drew.blk 0 rfl)))
    obtain ⟨c0, c1, c2, c3, c4, c5, cf⟩ := aX (hs4.blk 1 rfl)
    have vh := Eh hs4
    have hb3 : (i : Int) ≤ (wc : Int) := by omega
    have hmap : Option.map (fun x => Addr.add x 0) (some (⟨g, og, none⟩ : Addr)) = some ⟨g, og, none⟩ := by first | rfl | simp [cn]
    clear hq4 hs4
    have yr := Eh (qp (R := RC) HX.out)
    cases hf : eU RC Q i
    ·rw [hf] at yr
     have HF := Eh hf
     clear hf
     refine ag [(0, false, 8), (1, false, 8), (2, false, 8), (3, false, 8), (4, false, 8), (5, false, 8), (6, false, 8), (7, false, 8), (8, true, 0)] (by kernel_rfl) (by kernel_rfl) ?_
     iterate 8 (refine af rfl rfl (fun K hK => ?_); (first | ((refine aj _ _ rfl _ _ rfl _ xI.out ?_); go_simp) | go_simp); refine hK _ ?_; clear hK K)
     refine al rfl ?_
     refine aw rfl (fun K hK => ?_)
     go_simp
     refine (fO x (HD.out.env y9.out) (PH.le.refl _) (vZ.out.2 x (List.mem_of_getElem? AR.out)) (fun y hy => vZ.out.2 y (List.mem_of_mem_take hy)) vk.out y9.out).mono ?_
     rw [wP.out, ← yr.out]
     rintro e6 w6 ⟨rfl, hk6⟩
     have vi := Eh ((vh.out.drew.kept hk6).drop)
     clear hk6 vh y9 vk xI c0 c1 c2 c3 c4 c5 cf hb3 hmap
     refine hK _ _ ?_
     clear hK K
     refine wpList_nil ?_
     refine And.intro ?_ ?_
     ·go_simp
     refine ar ?_
     go_wp2_with fail
     go_roundw
     case rel => exact ⟨i + 1, by go_num, rfl, by omega, fun j hj => by rcases Nat.lt_succ_iff_lt_or_eq.1 hj with h | rfl; exact xt.out j h; exact HF.out, vi.out⟩
     case measure => simp [intOf]; omega
    ·rw [hf] at yr
     have wu := Eh (lD (R := RC) (q := Q) (i := i) (by rw [yZ.out]; exact hlt) xt.out hf)
     clear hf
     obtain ⟨n1, rfl⟩ : ∃ n1, N = n1 + 1 := ⟨N - 1, by omega⟩
     have hw1 : IntKind.i64.wrap ((i : Int) + 1) = (i : Int) + 1 := IntWalk.i64_in _ (by omega)
     refine ag [(0, false, 8), (1, false, 8), (2, false, 8), (3, false, 8), (4, false, 8), (5, false, 8), (6, false, 8), (7, false, 8), (8, true, 0)] (by kernel_rfl) (by kernel_rfl) ?_
     iterate 8 (refine af rfl rfl (fun K hK => ?_); (first | ((refine aj _ _ rfl _ _ rfl _ xI.out ?_); go_simp) | go_simp); refine hK _ ?_; clear hK K)
     refine al rfl ?_
     refine aw rfl (fun K hK => ?_)
     go_simp
     refine (fO x (HD.out.env y9.out) (PH.le.refl _) (vZ.out.2 x (List.mem_of_getElem? AR.out)) (fun y hy => vZ.out.2 y (List.mem_of_mem_take hy)) vk.out y9.out).mono ?_
     rw [wP.out, ← yr.out]
     rintro e6 w6 ⟨rfl, hk6⟩
     have hs6 := vh.out.drew.kept hk6
     clear hk6 vh y9 vk xI c0 c1 c2 c3 c4 c5 cf hb3 hmap wP yr
     obtain ⟨c0, c1, c2, c3, c4, c5, cf⟩ := aX (hs6.blk 1 rfl)
     have vi := Eh (show Sat B D w6 (aI bg 18 (.slice (some ⟨g, og, none⟩) (n1 + 1) wc) (n1 + 1) (ws.flatMap ay) :: blk bx (ay x).toArray bg :: qbC q hv (.slice (some ⟨g, og, none⟩) (n1 + 1) wc) :: bN hv hs :: cj (.slice none 0 0) ([] : List Int) :: l) from hs6.front 3 rfl)
     clear hs6
     refine hK _ _ ?_
     clear hK K
     refine wpList_nil ?_
     refine And.intro ?_ ?_
     ·go_simp
     refine ar ?_
     go_upto_region 7 with (go_at_call 156; refine (oE (n := n1) (i := i) (mj bT ws i).symm (by omega) vi.out).mono ?_; rintro e7 w7 ⟨v7, rfl, hs7⟩; obtain ⟨va, vc, rfl⟩ := hs7.own_shape; clear c0 c1 c2 c3 c4 c5 cf vi; obtain ⟨c0, c1, c2, c3, c4, c5, cf⟩ := aX (hs7.blk 2 rfl); have vn := Eh (Sat.set6 (hs7.front 2 rfl) (.slice va n1 vc)); clear hs7)
     obtain ⟨W8, hW8, hs8⟩ := Sat.hide vn.out
     rw [← hW8]
     clear hW8 vn c0 c1 c2 c3 c4 c5 cf hw1
     have hlw : (ws.eraseIdx i).length = n1 := by rw [List.length_eraseIdx_of_lt (by rw [HN.out]; omega), HN.out]; omega
     have hq8 : Sat B D W8 (bZ D q ⟨Q.held, Q.waits.eraseIdx i⟩ :: blk bx (ay x).toArray bg :: cj (.slice none 0 0) ([] : List Int) :: l) := cB (ws := ws.eraseIdx i) wL.out ⟨by rw [← vZ.out.1]; simp only [List.eraseIdx_eq_take_drop_succ, List.map_append, List.map_take, List.map_drop], fun y hy => vZ.out.2 y (List.mem_of_mem_eraseIdx hy)⟩ (by
      show Sat B D W8 (qbC q hv (.slice va n1 vc) :: bN hv hs :: aI bg 18 (.slice va n1 vc) (ws.eraseIdx i).length ((ws.eraseIdx i).flatMap ay) :: _)
      rw [hlw]
      exact (hs8.front 3 rfl).front 1 rfl)
     have Bz := Eh hq8
     have xI := Eh (dy (ak (hq8.blk 1 rfl)))
     clear hq8 hs8 hlw
     go_upto_region 8 with (first | (refine ai rfl _ _ rfl _ _ rfl _ xI.out ?_) | (go_at_call 136; refine (ny x (by show Q.held.length ≤ 100000; omega) (PH.le.refl _) (vZ.out.2 x (List.mem_of_getElem? AR.out)) Bz.out).mono ?_; rintro e9 w9 ⟨rfl, hs9⟩; have yD := Eh hs9; clear hs9 Bz xI))
     have x0 := (ei (yD.out.blk 1 rfl)).1
     have vo := Eh (show Sat B D (w9.alloc (.cells #[.int .i64 (aE x).o] 3)) (aI 3 1 (.slice none 0 0) ([] : List Int).length (([] : List Int).map (Value.int .i64)) :: blk w9.heap.size #[.int .i64 (aE x).o] 3 :: bZ D q (cP RC ⟨Q.held, Q.waits.eraseIdx i⟩ (aE x)) :: blk bx (ay x).toArray bg :: l) from (yD.out.alloc _ _).front 3 rfl)
     have vk := Eh (aS (size := 1) (n := 1) (vo.out.blk 1 rfl) rfl (by unfold maxLen; omega))
     go_wp2_with (at_builtin; refine au _ rfl _ _ 42 rfl 3 i0 _ 1 8 Tryz.underlying42 HI.out.1 HI.out.2.1 HI.out.2.2.1 HI.out.2.2.2 rfl _ ([] : List Int).length _ rfl vo.out _ 1 _ rfl vk.out (by intro u hu; simp at hu; subst hu; rfl) (by unfold maxLen; omega) (by omega) ?_; intro v11 w11 hs11 h11; have vl := Eh hs11; clear hs11 vo vk yD x0)
     go_step3
     have hmv := iQ (R := RC) wu.out HX.out
     have hlen1 := gp (R := RC) Q.held (aE x)
     have hlen2 : (Q.waits.eraseIdx i).length = n1 := by rw [List.length_eraseIdx_of_lt (by rw [yZ.out]; omega), yZ.out]; omega
     have hs12 : Sat B D w11 (bZ D q (cP RC ⟨Q.held, Q.waits.eraseIdx i⟩ (aE x)) :: cj v11 (([] : List Int) ++ [(aE x).o]) :: l) := by
      show Sat B D w11 (_ :: aI 3 1 v11 (([] : List Int) ++ [(aE x).o]).length ((([] : List Int) ++ [(aE x).o]).map (Value.int .i64)) :: l)
      rw [List.length_append, List.map_append]
      exact ((vl.out.swap.drop).front 2 rfl).drop.front 1 rfl
     refine ⟨rfl, cP RC ⟨Q.held, Q.waits.eraseIdx i⟩ (aE x), ([] : List Int) ++ [(aE x).o], v11, _, _, _, _, _, _, _, _, _, _, _, _, _, _, _, _, _, _, _, _, _, _, _, _, _, _, _, _, _, _, _, _, _, _, _, _, _, _, _, _, _, _, rfl, ?_, ?_, ?_, hs12⟩
     ·rw [xY.out, hmv]; simp
     ·show (cy RC Q.held (aE x)).length + (Q.waits.eraseIdx i).length ≤ 1000
      have := yZ.out
      omega
     ·show (([] : List Int) ++ [(aE x).o]).length + (Q.waits.eraseIdx i).length ≤ 1000
      have := yZ.out
      rw [List.length_append, List.length_singleton]
      omega
   ·have hii : ¬ ((i : Int) < (N : Int)) := by omega
    have vT := Eh (iR (R := RC) (kW (q := Q) (fun j hj => xt.out j (by rw [yZ.out] at hj; omega))))
    go_wp2_with fail
    simp only [Exit.jump]
    go_ret
    refine ⟨_, rfl, ?_⟩
    rw [xY.out, vT.out, List.append_nil]
    refine cB (hv := hv) (wv := .slice wa N wc) wL.out vZ.out ?_
    show Sat B D wr (qbC q hv (.slice wa N wc) :: bN hv hs :: aI bg 18 (.slice wa N wc) ws.length (ws.flatMap ay) :: cj (.slice none 0 0) ([] : List Int) :: l)
    rw [HN.out]
    exact vg.out
 ·rintro a1 wr ⟨Q1, out, ov, u4, u5, u6, u7, u8, u9, u10, u11, u12, u13, u14, u15, u16, u17, u18, u19, u20, u21, u22, u23, u24, u25, u26, u27, u28, u29, u30, u31, u32, u33, u34, u35, u36, u37, u38, u39, u40, u41, u42, u43, u44, u45, rfl, hmv, hb1, hb2, hs⟩
  have xY := Eh hmv
  have HS := Eh hs
  obtain ⟨oa, oc, rfl⟩ := (hs.front 1 rfl).own_shape
  clear hmv hs wt
  obtain ⟨hv, wv, hs, ws, hr1, hr2, h1⟩ := aU HS.out
  obtain ⟨wa, wc, rfl⟩ := (h1.front 2 rfl).own_shape
  obtain ⟨N, hN⟩ : ∃ N, N = ws.length := ⟨_, rfl⟩
  have hNQ : Q1.waits.length = N := by rw [← hr2.1, List.length_map, hN]
  have C7 := Eh (show gF q wr = N by unfold gF; rw [(aX (h1.blk 0 rfl)).2.2.2.2.2.1, hN])
  have h1' : Sat B D wr (qbC q hv (.slice wa N wc) :: bN hv hs :: aI bg 18 (.slice wa N wc) N (ws.flatMap ay) :: cj (.slice oa out.length oc) out :: l) := by rw [hN]; exact h1
  have wL := Eh hr1
  have vZ := Eh hr2
  have HN := Eh hN.symm
  have yZ := Eh hNQ
  have hwc : N ≤ wc := by obtain ⟨_, _, _, _, hx, hy, _⟩ := (h1'.own 2 rfl).rd; cases hx; exact hy
  have uX := Eh h1'
  obtain ⟨c0, c1, c2, c3, c4, c5, cf⟩ := aX (h1'.blk 0 rfl)
  have hNM : N ≤ 1000 := by omega
  clear h1 h1' hr1 hr2 hN hNQ HS
  go_wp2_with fail
  go_loopw [3, 11] (fun o3 ii wr2 => ∃ i : Nat, ii = .int .i64 i ∧ o3 = (.slice oa out.length oc) ∧ i ≤ N ∧ (∀ j, j < i → eU RC Q1 j = false) ∧ Sat B D wr2 (qbC q hv (.slice wa N wc) :: bN hv hs :: aI bg 18 (.slice wa N wc) N (ws.flatMap ay) :: cj (.slice oa out.length oc) out :: l)) (fun _ ii _ => N - (intOf ii).toNat)
  case atStart => exact ⟨0, rfl, rfl, by omega, fun j hj => by omega, uX.out⟩
  case round =>
   obtain ⟨i, rfl, rfl, hi, hcan, hs2⟩ := hrel
   have xt := Eh hcan
   have vg := Eh hs2
   clear hcan hs2 uX c0 c1 c2 c3 c4 c5 cf
   by_cases hlt : i < N
   ·have hii : (i : Int) < (N : Int) := by omega
    obtain ⟨x, hx⟩ : ∃ x, ws[i]? = some x := ⟨ws[i]'(by rw [HN.out]; exact hlt), List.getElem?_eq_getElem _⟩
    obtain ⟨g, og, rfl, hrng⟩ := aF bT (vg.out.own 2 rfl).rd hx HN.out
    have HL := Eh (dy hrng)
    have HX := Eh (show Q1.waits[i]? = some (aE x) by rw [← vZ.out.1, List.getElem?_map, hx]; rfl)
    have AR := Eh hx
    have uY := Eh (vg.out.alloc (ay x).toArray bg)
    clear hx hrng
    go_upto_region 5 with (first | (refine ai rfl _ _ rfl _ _ rfl _ HL.out ?_) | (refine ax rfl _ _ _ rfl (ay x) _ _ rfl rfl (by kernel_rfl) rfl (eE x) ?_))
    clear HL vg
    obtain ⟨W4, hW4, hs4⟩ := Sat.hide uY.out
    rw [← hW4]
    clear hW4 uY
    generalize wr.heap.size = bx at hs4 ⊢
    have hq4 : Sat B D W4.drew (bZ D q Q1 :: blk bx (ay x).toArray bg :: cj (.slice oa out.length oc) out :: l) := cB wL.out vZ.out (by
     show Sat B D W4.drew (qbC q hv (.slice (some ⟨g, og, none⟩) N wc) :: bN hv hs :: aI bg 18 (.slice (some ⟨g, og, none⟩) N wc) ws.length (ws.flatMap ay) :: _)
     rw [HN.out]
     exact ((hs4.drew.front 3 rfl).front 3 rfl).front 3 rfl)
    have y9 := Eh hq4
    have vk := Eh (Rd.takeE bT (hs4.drew.own 3 rfl).rd (m := i) (by omega) HN.out)
    have wP := Eh (show (ws.take i).map aE = Q1.waits.take i by rw [List.map_take, vZ.out.1])
    have xI := Eh (dy (ak (hs4.drew.blk 0 rfl)))
    obtain ⟨c0, c1, c2, c3, c4, c5, cf⟩ := aX (hs4.blk 1 rfl)
    have vh := Eh hs4
    have hb3 : (i : Int) ≤ (wc : Int) := by omega
    have hmap : Option.map (fun x => Addr.add x 0) (some (⟨g, og, none⟩ : Addr)) = some ⟨g, og, none⟩ := by first | rfl | simp [cn]
    clear hq4 hs4
    have yr := Eh (qp (R := RC) HX.out)
    cases hf : eU RC Q1 i
    ·rw [hf] at yr
     have HF := Eh hf
     clear hf
     refine ag [(0, false, 8), (1, false, 8), (2, false, 8), (3, false, 8), (4, false, 8), (5, false, 8), (6, false, 8), (7, false, 8), (8, true, 0)] (by kernel_rfl) (by kernel_rfl) ?_
     iterate 8 (refine af rfl rfl (fun K hK => ?_); (first | ((refine aj _ _ rfl _ _ rfl _ xI.out ?_); go_simp) | go_simp); refine hK _ ?_; clear hK K)
     refine al rfl ?_
     refine aw rfl (fun K hK => ?_)
     go_simp
     refine (fO x (HD.out.env y9.out) (PH.le.refl _) (vZ.out.2 x (List.mem_of_getElem? AR.out)) (fun y hy => vZ.out.2 y (List.mem_of_mem_take hy)) vk.out y9.out).mono ?_
     rw [wP.out, ← yr.out]
     rintro e6 w6 ⟨rfl, hk6⟩
     have vi := Eh ((vh.out.drew.kept hk6).drop)
     clear hk6 vh y9 vk xI c0 c1 c2 c3 c4 c5 cf hb3 hmap
     refine hK _ _ ?_
     clear hK K
     refine wpList_nil ?_
     refine And.intro ?_ ?_
     ·go_simp
     refine ar ?_
     go_wp2_with fail
     go_roundw
     case rel => exact ⟨i + 1, by go_num, rfl, by omega, fun j hj => by rcases Nat.lt_succ_iff_lt_or_eq.1 hj with h | rfl; exact xt.out j h; exact HF.out, vi.out⟩
     case measure => simp [intOf]; omega
    ·rw [hf] at yr
     have wu := Eh (lD (R := RC) (q := Q1) (i := i) (by rw [yZ.out]; exact hlt) xt.out hf)
     clear hf
     obtain ⟨n1, rfl⟩ : ∃ n1, N = n1 + 1 := ⟨N - 1, by omega⟩
     have hw1 : IntKind.i64.wrap ((i : Int) + 1) = (i : Int) + 1 := IntWalk.i64_in _ (by omega)
     refine ag [(0, false, 8), (1, false, 8), (2, false, 8), (3, false, 8), (4, false, 8), (5, false, 8), (6, false, 8), (7, false, 8), (8, true, 0)] (by kernel_rfl) (by kernel_rfl) ?_
     iterate 8 (refine af rfl rfl (fun K hK => ?_); (first | ((refine aj _ _ rfl _ _ rfl _ xI.out ?_); go_simp) | go_simp); refine hK _ ?_; clear hK K)
     refine al rfl ?_
     refine aw rfl (fun K hK => ?_)
     go_simp
     refine (fO x (HD.out.env y9.out) (PH.le.refl _) (vZ.out.2 x (List.mem_of_getElem? AR.out)) (fun y hy => vZ.out.2 y (List.mem_of_mem_take hy)) vk.out y9.out).mono ?_
     rw [wP.out, ← yr.out]
     rintro e6 w6 ⟨rfl, hk6⟩
     have hs6 := vh.out.drew.kept hk6
     clear hk6 vh y9 vk xI c0 c1 c2 c3 c4 c5 cf hb3 hmap wP yr
     obtain ⟨c0, c1, c2, c3, c4, c5, cf⟩ := aX (hs6.blk 1 rfl)
     have vi := Eh (show Sat B D w6 (aI bg 18 (.slice (some ⟨g, og, none⟩) (n1 + 1) wc) (n1 + 1) (ws.flatMap ay) :: blk bx (ay x).toArray bg :: qbC q hv (.slice (some ⟨g, og, none⟩) (n1 + 1) wc) :: bN hv hs :: cj (.slice oa out.length oc) out :: l) from hs6.front 3 rfl)
     clear hs6
     refine hK _ _ ?_
     clear hK K
     refine wpList_nil ?_
     refine And.intro ?_ ?_
     ·go_simp
     refine ar ?_
     go_upto_region 7 with (go_at_call 156; refine (oE (n := n1) (i := i) (mj bT ws i).symm (by omega) vi.out).mono ?_; rintro e7 w7 ⟨v7, rfl, hs7⟩; obtain ⟨va, vc, rfl⟩ := hs7.own_shape; clear c0 c1 c2 c3 c4 c5 cf vi; obtain ⟨c0, c1, c2, c3, c4, c5, cf⟩ := aX (hs7.blk 2 rfl); have vn := Eh (Sat.set6 (hs7.front 2 rfl) (.slice va n1 vc)); clear hs7)
     obtain ⟨W8, hW8, hs8⟩ := Sat.hide vn.out
     rw [← hW8]
     clear hW8 vn c0 c1 c2 c3 c4 c5 cf hw1
     have hlw : (ws.eraseIdx i).length = n1 := by rw [List.length_eraseIdx_of_lt (by rw [HN.out]; omega), HN.out]; omega
     have hq8 : Sat B D W8 (bZ D q ⟨Q1.held, Q1.waits.eraseIdx i⟩ :: blk bx (ay x).toArray bg :: cj (.slice oa out.length oc) out :: l) := cB (ws := ws.eraseIdx i) wL.out ⟨by rw [← vZ.out.1]; simp only [List.eraseIdx_eq_take_drop_succ, List.map_append, List.map_take, List.map_drop], fun y hy => vZ.out.2 y (List.mem_of_mem_eraseIdx hy)⟩ (by
      show Sat B D W8 (qbC q hv (.slice va n1 vc) :: bN hv hs :: aI bg 18 (.slice va n1 vc) (ws.eraseIdx i).length ((ws.eraseIdx i).flatMap ay) :: _)
      rw [hlw]
      exact (hs8.front 3 rfl).front 1 rfl)
     have Bz := Eh hq8
     have xI := Eh (dy (ak (hq8.blk 1 rfl)))
     clear hq8 hs8 hlw
     go_upto_region 8 with (first | (refine ai rfl _ _ rfl _ _ rfl _ xI.out ?_) | (go_at_call 136; refine (ny x (by show Q1.held.length ≤ 100000; omega) (PH.le.refl _) (vZ.out.2 x (List.mem_of_getElem? AR.out)) Bz.out).mono ?_; rintro e9 w9 ⟨rfl, hs9⟩; have yD := Eh hs9; clear hs9 Bz xI))
     have x0 := (ei (yD.out.blk 1 rfl)).1
     have vo := Eh (show Sat B D (w9.alloc (.cells #[.int .i64 (aE x).o] 3)) (aI 3 1 (.slice oa out.length oc) out.length (out.map (Value.int .i64)) :: blk w9.heap.size #[.int .i64 (aE x).o] 3 :: bZ D q (cP RC ⟨Q1.held, Q1.waits.eraseIdx i⟩ (aE x)) :: blk bx (ay x).toArray bg :: l) from (yD.out.alloc _ _).front 3 rfl)
     have vk := Eh (aS (size := 1) (n := 1) (vo.out.blk 1 rfl) rfl (by unfold maxLen; omega))
     go_wp2_with (at_builtin; refine au _ rfl _ _ 42 rfl 3 i0 _ 1 8 Tryz.underlying42 HI.out.1 HI.out.2.1 HI.out.2.2.1 HI.out.2.2.2 rfl _ out.length _ rfl vo.out _ 1 _ rfl vk.out (by intro u hu; simp at hu; subst hu; rfl) (by unfold maxLen; omega) (by omega) ?_; intro v11 w11 hs11 h11; have vl := Eh hs11; clear hs11 vo vk yD x0)
     go_step3
     have hmv := iQ (R := RC) wu.out HX.out
     have hlen1 := gp (R := RC) Q1.held (aE x)
     have hlen2 : (Q1.waits.eraseIdx i).length = n1 := by rw [List.length_eraseIdx_of_lt (by rw [yZ.out]; omega), yZ.out]; omega
     have hs12 : Sat B D w11 (bZ D q (cP RC ⟨Q1.held, Q1.waits.eraseIdx i⟩ (aE x)) :: cj v11 (out ++ [(aE x).o]) :: l) := by
      show Sat B D w11 (_ :: aI 3 1 v11 (out ++ [(aE x).o]).length ((out ++ [(aE x).o]).map (Value.int .i64)) :: l)
      rw [List.length_append, List.map_append]
      exact ((vl.out.swap.drop).front 2 rfl).drop.front 1 rfl
     refine ⟨rfl, ⟨cP RC ⟨Q1.held, Q1.waits.eraseIdx i⟩ (aE x), out ++ [(aE x).o], v11, _, _, _, _, _, _, _, _, _, _, _, _, _, _, _, _, _, _, _, _, _, _, _, _, _, _, _, _, _, _, _, _, _, _, _, _, _, _, _, _, _, _, rfl, ?_, ?_, ?_, hs12⟩, ?_⟩
     ·rw [xY.out, hmv]; simp
     ·show (cy RC Q1.held (aE x)).length + (Q1.waits.eraseIdx i).length ≤ 1000
      have := yZ.out
      omega
     ·show (out ++ [(aE x).o]).length + (Q1.waits.eraseIdx i).length ≤ 1000
      have := yZ.out
      rw [List.length_append, List.length_singleton]
      omega
     ·rw [C7.out, pM hs12]
      show (Q1.waits.eraseIdx i).length < n1 + 1
      omega
   ·have hii : ¬ ((i : Int) < (N : Int)) := by omega
    have vT := Eh (iR (R := RC) (kW (q := Q1) (fun j hj => xt.out j (by rw [yZ.out] at hj; omega))))
    go_wp2_with fail
    simp only [Exit.jump]
    go_ret
    refine ⟨_, rfl, ?_⟩
    rw [xY.out, vT.out, List.append_nil]
    refine cB (hv := hv) (wv := .slice wa N wc) wL.out vZ.out ?_
    show Sat B D wr (qbC q hv (.slice wa N wc) :: bN hv hs :: aI bg 18 (.slice wa N wc) ws.length (ws.flatMap ay) :: cj (.slice oa out.length oc) out :: l)
    rw [HN.out]
    exact vg.out
theorem s9 {B w : World} {D : PH} {l : List HP} {q F : Nat} {caps : Array Value} {Q : Qm Clm} (p : Ent Clm → Bool) (hD : EnvD D) (hM : Q.held.length + Q.waits.length ≤ 1000) (hent : Enters Tryz.prog F) (HF : ∀ x : EntE,
  OkC D x →
  ∀ (hv wv : Value) (ws : List (EntE)), PredS B D (qbC q hv wv :: bN wv ws :: l) F caps (ay x) (p (aE x))) (h : Sat B D w (bZ D q Q :: l)) :
  Calls Tryz.prog 111 #[.pointer (some ⟨q, 0, none⟩), .func (.func F) #[] caps] w fun r w' => ∃ v, r = .returned v ∧ Sat B D w' (bZ D q (aY RC Q p).1 :: cj v (aY RC Q p).2 :: l) := by
 obtain ⟨hv, wv, hs, ws, hr1, hr2, h1⟩ := aU h
 obtain ⟨ha, hc, rfl⟩ := (h1.front 1 rfl).own_shape
 obtain ⟨c0, c1, c2, c3, c4, c5, cf⟩ := aX (h1.blk 0 rfl)
 have wO := Eh (jt (F := F) (caps := caps) (fun x => p (aE x)) rfl hent (h1.front 1 rfl) (fun x hx => (HF x
  (hr1.2 x hx)
  _ _ _)))
 have wL := Eh hr1
 have vZ := Eh hr2
 have HD := Eh hD
 clear h h1 hr1 hr2 hent HF hD
 go_enter Tryz.func111, Tryz.ntmps111
 go_upto_region 2 with (go_at_call 108; refine wO.out.mono ?_; rintro e1 w1 ⟨v1, rfl, hs1⟩; obtain ⟨va, vc, rfl⟩ := hs1.own_shape; clear c0 c1 c2 c3 c4 c5 cf wO; obtain ⟨c0, c1, c2, c3, c4, c5, cf⟩ := aX (hs1.blk 1 rfl); have uX := Eh (Sat.set5 (hs1.front 1 rfl) (.slice va (hs.filter (fun x => !p (aE x))).length vc)); clear hs1)
 obtain ⟨W2, hW2, hs2⟩ := Sat.hide uX.out
 rw [← hW2]
 clear hW2 uX c0 c1 c2 c3 c4 c5 cf
 have hq2 : Sat B D W2 (bZ D q ⟨Q.held.filter (fun e => !p e), Q.waits⟩ :: l) := cB (hs := hs.filter (fun x => !p (aE x))) ⟨by rw [← wL.out.1, List.filter_map]; rfl, fun x hx => wL.out.2 x (List.mem_filter.1 hx).1⟩ vZ.out hs2
 have xY := Eh (tT HD.out (by have := List.length_filter_le (fun e => !p e) Q.held; show (Q.held.filter _).length + Q.waits.length ≤ 1000; omega) hq2)
 clear hs2 hq2
 go_wp2_with (go_at_call 110; refine xY.out.mono ?_; rintro e3 w3 ⟨v3, rfl, hs3⟩; have uY := Eh hs3; clear hs3 xY)
 go_ret
 exact ⟨_, rfl, uY.out⟩
theorem Clear_C {B w : World} {D : PH} {l : List HP} {q : Nat} {Q : Qm Clm} (o : Int) (hD : EnvD D) (hM : Q.held.length + Q.waits.length ≤ 1000) (h : Sat B D w (bZ D q Q :: l)) :
  Calls Tryz.prog 67 #[.pointer (some ⟨q, 0, none⟩), .int .i64 o] w fun r w' => ∃ v, r = .returned v ∧ Sat B D w' (bZ D q (aY RC Q (ofE o)).1 :: cj v (aY RC Q (ofE o)).2 :: l) := by
 obtain ⟨W1, hW1, hs1⟩ := Sat.hide (h.alloc #[.int .i64 o] 3)
 have uW := Eh hW1
 have wZ := Eh (s9 (l := blk w.heap.size #[.int .i64 o] 3 :: l) (F := 112) (caps := #[.pointer (some ⟨w.heap.size, 0, none⟩)]) (ofE o) hD hM (enters_of Tryz.func112 (by kernel_rfl) rfl) (fun x
  _
  _ _ _ W X hx => (uh (hx.blk (X.length + 2) (by simp)) x).2 W (Kept.refl _ _)) hs1.swap)
 clear h hs1 hW1 hD
 go_enter Tryz.func67, Tryz.ntmps67
 go_upto_region 1 with fail
 rw [← uW.out]
 clear uW
 generalize w.heap.size = bx at wZ ⊢
 go_wp2_with (go_at_call 111; refine wZ.out.mono ?_; rintro e1 w1 ⟨v1, rfl, hs1⟩; have uX := Eh hs1; clear hs1 wZ)
 go_ret
 exact ⟨_, rfl, (uX.out.front 2 rfl).drop⟩
theorem uV {B w : World} {D : PH} {l : List HP} {q : Nat} {Q : Qm Clm} (hM : Q.held.length + Q.waits.length ≤ 1000000) (h : Sat B D w (bZ D q Q :: l)) :
  Calls Tryz.prog 44 #[.pointer (some ⟨q, 0, none⟩)] w fun r w' => r = .returned (.int .i64 ((Q.held.length + Q.waits.length : Nat) : Int)) ∧ Kept (fun _ => False) w w' := by
 obtain ⟨hv, wv, hs, ws, hr1, hr2, h1⟩ := aU h
 obtain ⟨ha, hc, rfl⟩ := (h1.front 1 rfl).own_shape
 obtain ⟨wa, wc, rfl⟩ := (h1.front 2 rfl).own_shape
 have e1 : hs.length = Q.held.length := by rw [← hr1.1, List.length_map]
 have e2 : ws.length = Q.waits.length := by rw [← hr2.1, List.length_map]
 obtain ⟨c0, c1, c2, c3, c4, c5, cf⟩ := aX (h1.blk 0 rfl)
 rw [e1] at c4
 rw [e2] at c5
 have HK := Eh ((Kept.refl (fun _ => False) w).drew)
 clear h h1 hr1 hr2 e1 e2
 generalize Q.held.length = n at *
 generalize Q.waits.length = m at *
 have hw : IntKind.i64.wrap ((n : Int) + (m : Int)) = (n : Int) + (m : Int) := IntWalk.i64_in _ (by omega)
 go_enter Tryz.func44, Tryz.ntmps44
 go_upto_region 3 with fail
 refine ag [(0, false, 999), (1, false, 999), (2, false, 999), (3, false, 999), (4, false, 999), (5, false, 999), (6, false, 999), (7, false, 999), (8, false, 999), (9, false, 999), (10, false, 999), (11, false, 999)] (by kernel_rfl) (by kernel_rfl) ?_
 iterate 12 (refine af rfl rfl (fun K hK => ?_); go_simp; refine hK _ ?_; clear hK K)
 refine ar ?_
 go_wp2_with fail
 go_ret
 exact ⟨by go_num, HK.out⟩
end Go.Proofs.YtgljdkjepdknnaaGreatDoor
