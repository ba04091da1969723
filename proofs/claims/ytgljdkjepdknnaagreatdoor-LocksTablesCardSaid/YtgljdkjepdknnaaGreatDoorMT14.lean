/- Joined texts: Moving. (printed by genq.py) Dropping; how many there are. (printed by genq.py) -/
import Derived.Test.YtgljdkjepdknnaaGreatDoorMT11
set_option maxHeartbeats 64000000
namespace Go.Proofs.YtgljdkjepdknnaaGreatDoor
open Go.ChangeShapes Go.WideShapes Go.ChangeAt Go.RowKit
set_option maxRecDepth 100000
set_option linter.unusedSimpArgs false
theorem nN {B w : World} {D D' : PH} {l : List HP} {q : Nat} {Q : Qm Clm} (h : Sat B D w (bP D' q Q :: l)) : fI q w = Q.waits.length := by
 obtain ⟨hv, wv, hs, ws, hr1, hr2, h1⟩ := aU h
 obtain ⟨wa, wc, rfl⟩ := (h1.front 2 rfl).own_shape
 unfold fI
 rw [(a7 (h1.blk 0 rfl)).2.2.2.2.2.1, ← hr2.1, List.length_map]
def MoveJ_C (B : World) (D : PH) (l : List HP) (q : Nat) (Q : Qm Clm) (M : Nat) (a' : Act) (w' : World) : Prop :=
 ∃ (Q1 : Qm Clm) (out : List Int) (ov u4 u5 u6 u7 u8 u9 u10 u11 u12 u13 u14 u15 u16 u17 u18 u19 u20 u21 u22 u23 u24 u25 u26 u27 u28 u29 u30 u31 u32 u33 u34 u35 u36 u37 u38 u39 u40 u41 u42 u43 u44 u45 : Value), a' = { tmps := #[.pointer (some ⟨q, 0, none⟩), undef, .slice none 0 0, ov, u4, u5, u6, u7, u8, u9, u10, u11, u12, u13, u14, u15, u16, u17, u18, u19, u20, u21, u22, u23, u24, u25, u26, u27, u28, u29, u30, u31, u32, u33, u34, u35, u36, u37, u38, u39, u40, u41, u42, u43, u44, u45], defers := [] } ∧ bJ RC Q = ((bJ RC Q1).1, out ++ (bJ RC Q1).2) ∧ Q1.held.length + Q1.waits.length ≤ M ∧ out.length + Q1.waits.length ≤ M ∧ Sat B D w' (bP D q Q1 :: cq ov out :: l)
theorem rV {B w : World} {D : PH} {l : List HP} {q : Nat} {Q : Qm Clm} (hD : EnvD D) (hM : Q.held.length + Q.waits.length ≤ 1000) (h : Sat B D w (bP D q Q :: l)) :
  Calls Tryz.prog 110 #[.pointer (some ⟨q, 0, none⟩)] w fun r w' => ∃ v, r = .returned v ∧ Sat B D w' (bP D q (bJ RC Q).1 :: cq v (bJ RC Q).2 :: l) := by
 obtain ⟨i0, hi, hz0, hz1, hz2⟩ := info_parts jA
 have HI := BO (And.intro hi (And.intro hz0 (And.intro hz1 hz2)))
 have HD := BO hD
 have tZ := BO h
 clear hi hz0 hz1 hz2 h hD
 go_enter Tryz.func110, Tryz.ntmps110
 go_wp2_with fail
 refine wp_scope_jumps 0 (MoveJ_C B D l q Q 1000) (fun _ w' => fI q w') rfl ?_ ?_
 ·go_wp2_with fail
  go_step3
  have hb1 : Q.held.length + Q.waits.length ≤ 1000 := hM
  have hb2 : ([] : List Int).length + Q.waits.length ≤ 1000 := by simp; omega
  have vu := BO (show bJ RC Q = ((bJ RC Q).1, ([] : List Int) ++ (bJ RC Q).2) by simp)
  have HS := BO (show Sat B D w (bP D q Q :: cq (.slice none 0 0) ([] : List Int) :: l) from (tZ.out.own_nil 3 1).swap)
  clear tZ
  obtain ⟨hv, wv, hs, ws, hr1, hr2, h1⟩ := aU HS.out
  obtain ⟨wa, wc, rfl⟩ := (h1.front 2 rfl).own_shape
  obtain ⟨N, hN⟩ : ∃ N, N = ws.length := ⟨_, rfl⟩
  have hNQ : Q.waits.length = N := by rw [← hr2.1, List.length_map, hN]
  have AW := BO (show fI q w = N by unfold fI; rw [(a7 (h1.blk 0 rfl)).2.2.2.2.2.1, hN])
  have h1' : Sat B D w (qbC q hv (.slice wa N wc) :: bU hv hs :: aJ bg 18 (.slice wa N wc) N (ws.flatMap au) :: cq (.slice none 0 0) ([] : List Int) :: l) := by rw [hN]; exact h1
  have ut := BO hr1
  have tR := BO hr2
  have HN := BO hN.symm
  have wA := BO hNQ
  have hwc : N ≤ wc := by obtain ⟨_, _, _, _, hx, hy, _⟩ := (h1'.own 2 rfl).rd; cases hx; exact hy
  have sS := BO h1'
  obtain ⟨c0, c1, c2, c3, c4, c5, cf⟩ := a7 (h1'.blk 0 rfl)
  have hNM : N ≤ 1000 := by omega
  clear h1 h1' hr1 hr2 hN hNQ HS
  go_wp2_with fail
  go_loopw [3, 11] (fun o3 ii wr2 => ∃ i : Nat, ii = .int .i64 i ∧ o3 = (.slice none 0 0) ∧ i ≤ N ∧ (∀ j, j < i → et RC Q j = false) ∧ Sat B D wr2 (qbC q hv (.slice wa N wc) :: bU hv hs :: aJ bg 18 (.slice wa N wc) N (ws.flatMap au) :: cq (.slice none 0 0) ([] : List Int) :: l)) (fun _ ii _ => N - (intOf ii).toNat)
  case atStart => exact ⟨0, rfl, rfl, by omega, fun j hj => by omega, sS.out⟩
  case round =>
   obtain ⟨i, rfl, rfl, hi, hcan, hs2⟩ := hrel
   have uS := BO hcan
   have sX := BO hs2
   clear hcan hs2 sS c0 c1 c2 c3 c4 c5 cf
   by_cases hlt : i < N
   ·have hii : (i : Int) < (N : Int) := by omega
    obtain ⟨x, hx⟩ : ∃ x, ws[i]? = some x := ⟨ws[i]'(by rw [HN.out]; exact hlt), List.getElem?_eq_getElem _⟩
    obtain ⟨g, og, rfl, hrng⟩ := aD bM (sX.out.own 2 rfl).rd hx HN.out
    have HL := BO (dk hrng)
    have HX := BO (show Q.waits[i]? = some (aG x) by rw [← tR.out.1, List.getElem?_map, hx]; rfl)
    have yw := BO hx
    have sU := BO (sX.out.alloc (au x).toArray bg)
    clear hx hrng
    go_upto_region 5 with (first | (refine ag rfl _ _ rfl _ _ rfl _ HL.out ?_) | (refine ax rfl _ _ _ rfl (au x) _ _ rfl rfl (by kernel_rfl) rfl (eA x) ?_))
    clear HL sX
    obtain ⟨W4, hW4, hs4⟩ := Sat.hide sU.out
    rw [← hW4]
    clear hW4 sU
    generalize wr.heap.size = bx at hs4 ⊢
    have hq4 : Sat B D W4.drew (bP D q Q :: blk bx (au x).toArray bg :: cq (.slice none 0 0) ([] : List Int) :: l) := cr ut.out tR.out (by
     show Sat B D W4.drew (qbC q hv (.slice (some ⟨g, og, none⟩) N wc) :: bU hv hs :: aJ bg 18 (.slice (some ⟨g, og, none⟩) N wc) ws.length (ws.flatMap au) :: _)
     rw [HN.out]
     exact ((hs4.drew.front 3 rfl).front 3 rfl).front 3 rfl)
    have wB := BO hq4
    have s5 := BO (Rd.takeE bM (hs4.drew.own 3 rfl).rd (m := i) (by omega) HN.out)
    have uu := BO (show (ws.take i).map aG = Q.waits.take i by rw [List.map_take, tR.out.1])
    have vW := BO (dk (ai (hs4.drew.blk 0 rfl)))
    obtain ⟨c0, c1, c2, c3, c4, c5, cf⟩ := a7 (hs4.blk 1 rfl)
    have sY := BO hs4
    have hb3 : (i : Int) ≤ (wc : Int) := by omega
    have hmap : Option.map (fun x => Addr.add x 0) (some (⟨g, og, none⟩ : Addr)) = some ⟨g, og, none⟩ := by first | rfl | simp [bZ]
    clear hq4 hs4
    have vH := BO (od (R := RC) HX.out)
    cases hf : et RC Q i
    ·rw [hf] at vH
     have HF := BO hf
     clear hf
     refine af [(0, false, 8), (1, false, 8), (2, false, 8), (3, false, 8), (4, false, 8), (5, false, 8), (6, false, 8), (7, false, 8), (8, true, 0)] (by kernel_rfl) (by kernel_rfl) ?_
     iterate 8 (refine ae rfl rfl (fun K hK => ?_); (first | ((refine aj _ _ rfl _ _ rfl _ vW.out ?_); go_simp) | go_simp); refine hK _ ?_; clear hK K)
     refine al rfl ?_
     refine aw rfl (fun K hK => ?_)
     go_simp
     refine (fj x (HD.out.env wB.out) (PH.le.refl _) (tR.out.2 x (List.mem_of_getElem? yw.out)) (fun y hy => tR.out.2 y (List.mem_of_mem_take hy)) s5.out wB.out).mono ?_
     rw [uu.out, ← vH.out]
     rintro e6 w6 ⟨rfl, hk6⟩
     have s0 := BO ((sY.out.drew.kept hk6).drop)
     clear hk6 sY wB s5 vW c0 c1 c2 c3 c4 c5 cf hb3 hmap
     refine hK _ _ ?_
     clear hK K
     refine wpList_nil ?_
     refine And.intro ?_ ?_
     ·go_simp
     refine ap ?_
     go_wp2_with fail
     go_roundw
     case rel => exact ⟨i + 1, by go_num, rfl, by omega, fun j hj => by rcases Nat.lt_succ_iff_lt_or_eq.1 hj with h | rfl; exact uS.out j h; exact HF.out, s0.out⟩
     case measure => simp [intOf]; omega
    ·rw [hf] at vH
     have t7 := BO (jU (R := RC) (q := Q) (i := i) (by rw [wA.out]; exact hlt) uS.out hf)
     clear hf
     obtain ⟨n1, rfl⟩ : ∃ n1, N = n1 + 1 := ⟨N - 1, by omega⟩
     have hw1 : IntKind.i64.wrap ((i : Int) + 1) = (i : Int) + 1 := IntWalk.i64_in _ (by omega)
     refine af [(0, false, 8), (1, false, 8), (2, false, 8), (3, false, 8), (4, false, 8), (5, false, 8), (6, false, 8), (7, false, 8), (8, true, 0)] (by kernel_rfl) (by kernel_rfl) ?_
     iterate 8 (refine ae rfl rfl (fun K hK => ?_); (first | ((refine aj _ _ rfl _ _ rfl _ vW.out ?_); go_simp) | go_simp); refine hK _ ?_; clear hK K)
     refine al rfl ?_
     refine aw rfl (fun K hK => ?_)
     go_simp
     refine (fj x (HD.out.env wB.out) (PH.le.refl _) (tR.out.2 x (List.mem_of_getElem? yw.out)) (fun y hy => tR.out.2 y (List.mem_of_mem_take hy)) s5.out wB.out).mono ?_
     rw [uu.out, ← vH.out]
     rintro e6 w6 ⟨rfl, hk6⟩
     have hs6 := sY.out.drew.kept hk6
     clear hk6 sY wB s5 vW c0 c1 c2 c3 c4 c5 cf hb3 hmap uu vH
     obtain ⟨c0, c1, c2, c3, c4, c5, cf⟩ := a7 (hs6.blk 1 rfl)
     have s0 := BO (show Sat B D w6 (aJ bg 18 (.slice (some ⟨g, og, none⟩) (n1 + 1) wc) (n1 + 1) (ws.flatMap au) :: blk bx (au x).toArray bg :: qbC q hv (.slice (some ⟨g, og, none⟩) (n1 + 1) wc) :: bU hv hs :: cq (.slice none 0 0) ([] : List Int) :: l) from hs6.front 3 rfl)
     clear hs6
     refine hK _ _ ?_
     clear hK K
     refine wpList_nil ?_
     refine And.intro ?_ ?_
     ·go_simp
     refine ap ?_
     go_upto_region 7 with (go_at_call 156; refine (nx (n := n1) (i := i) (lk bM ws i).symm (by omega) s0.out).mono ?_; rintro e7 w7 ⟨v7, rfl, hs7⟩; obtain ⟨va, vc, rfl⟩ := hs7.own_shape; clear c0 c1 c2 c3 c4 c5 cf s0; obtain ⟨c0, c1, c2, c3, c4, c5, cf⟩ := a7 (hs7.blk 2 rfl); have td := BO (Sat.set6 (hs7.front 2 rfl) (.slice va n1 vc)); clear hs7)
     obtain ⟨W8, hW8, hs8⟩ := Sat.hide td.out
     rw [← hW8]
     clear hW8 td c0 c1 c2 c3 c4 c5 cf hw1
     have hlw : (ws.eraseIdx i).length = n1 := by rw [List.length_eraseIdx_of_lt (by rw [HN.out]; omega), HN.out]; omega
     have hq8 : Sat B D W8 (bP D q ⟨Q.held, Q.waits.eraseIdx i⟩ :: blk bx (au x).toArray bg :: cq (.slice none 0 0) ([] : List Int) :: l) := cr (ws := ws.eraseIdx i) ut.out ⟨by rw [← tR.out.1]; simp only [List.eraseIdx_eq_take_drop_succ, List.map_append, List.map_take, List.map_drop], fun y hy => tR.out.2 y (List.mem_of_mem_eraseIdx hy)⟩ (by
      show Sat B D W8 (qbC q hv (.slice va n1 vc) :: bU hv hs :: aJ bg 18 (.slice va n1 vc) (ws.eraseIdx i).length ((ws.eraseIdx i).flatMap au) :: _)
      rw [hlw]
      exact (hs8.front 3 rfl).front 1 rfl)
     have zi := BO hq8
     have vW := BO (dk (ai (hq8.blk 1 rfl)))
     clear hq8 hs8 hlw
     go_upto_region 8 with (first | (refine ag rfl _ _ rfl _ _ rfl _ vW.out ?_) | (go_at_call 136; refine (lV x (by show Q.held.length ≤ 100000; omega) (PH.le.refl _) (tR.out.2 x (List.mem_of_getElem? yw.out)) zi.out).mono ?_; rintro e9 w9 ⟨rfl, hs9⟩; have vX := BO hs9; clear hs9 zi vW))
     have x0 := (d5 (vX.out.blk 1 rfl)).1
     have s9 := BO (show Sat B D (w9.alloc (.cells #[.int .i64 (aG x).o] 3)) (aJ 3 1 (.slice none 0 0) ([] : List Int).length (([] : List Int).map (Value.int .i64)) :: blk w9.heap.size #[.int .i64 (aG x).o] 3 :: bP D q (ci RC ⟨Q.held, Q.waits.eraseIdx i⟩ (aG x)) :: blk bx (au x).toArray bg :: l) from (vX.out.alloc _ _).front 3 rfl)
     have s5 := BO (aT (size := 1) (n := 1) (s9.out.blk 1 rfl) rfl (by unfold maxLen; omega))
     go_wp2_with (at_builtin; refine ar _ rfl _ _ 42 rfl 3 i0 _ 1 8 Tryz.underlying42 HI.out.1 HI.out.2.1 HI.out.2.2.1 HI.out.2.2.2 rfl _ ([] : List Int).length _ rfl s9.out _ 1 _ rfl s5.out (by intro u hu; simp at hu; subst hu; rfl) (by unfold maxLen; omega) (by omega) ?_; intro v11 w11 hs11 h11; have s6 := BO hs11; clear hs11 s9 s5 vX x0)
     go_step3
     have hmv := hO (R := RC) t7.out HX.out
     have hlen1 := fF (R := RC) Q.held (aG x)
     have hlen2 : (Q.waits.eraseIdx i).length = n1 := by rw [List.length_eraseIdx_of_lt (by rw [wA.out]; omega), wA.out]; omega
     have hs12 : Sat B D w11 (bP D q (ci RC ⟨Q.held, Q.waits.eraseIdx i⟩ (aG x)) :: cq v11 (([] : List Int) ++ [(aG x).o]) :: l) := by
      show Sat B D w11 (_ :: aJ 3 1 v11 (([] : List Int) ++ [(aG x).o]).length ((([] : List Int) ++ [(aG x).o]).map (Value.int .i64)) :: l)
      rw [List.length_append, List.map_append]
      exact ((s6.out.swap.drop).front 2 rfl).drop.front 1 rfl
     refine ⟨rfl, ci RC ⟨Q.held, Q.waits.eraseIdx i⟩ (aG x), ([] : List Int) ++ [(aG x).o], v11, _, _, _, _, _, _, _, _, _, _, _, _, _, _, _, _, _, _, _, _, _, _, _, _, _, _, _, _, _, _, _, _, _, _, _, _, _, _, _, _, _, _, rfl, ?_, ?_, ?_, hs12⟩
     ·rw [vu.out, hmv]; simp
     ·show (bX RC Q.held (aG x)).length + (Q.waits.eraseIdx i).length ≤ 1000
      have := wA.out
      omega
     ·show (([] : List Int) ++ [(aG x).o]).length + (Q.waits.eraseIdx i).length ≤ 1000
      have := wA.out
      rw [List.length_append, List.length_singleton]
      omega
   ·have hii : ¬ ((i : Int) < (N : Int)) := by omega
    have tK := BO (g7 (R := RC) (kl (q := Q) (fun j hj => uS.out j (by rw [wA.out] at hj; omega))))
    go_wp2_with fail
    simp only [Exit.jump]
    go_ret
    refine ⟨_, rfl, ?_⟩
    rw [vu.out, tK.out, List.append_nil]
    refine cr (hv := hv) (wv := .slice wa N wc) ut.out tR.out ?_
    show Sat B D wr (qbC q hv (.slice wa N wc) :: bU hv hs :: aJ bg 18 (.slice wa N wc) ws.length (ws.flatMap au) :: cq (.slice none 0 0) ([] : List Int) :: l)
    rw [HN.out]
    exact sX.out
 ·rintro a1 wr ⟨Q1, out, ov, u4, u5, u6, u7, u8, u9, u10, u11, u12, u13, u14, u15, u16, u17, u18, u19, u20, u21, u22, u23, u24, u25, u26, u27, u28, u29, u30, u31, u32, u33, u34, u35, u36, u37, u38, u39, u40, u41, u42, u43, u44, u45, rfl, hmv, hb1, hb2, hs⟩
  have vu := BO hmv
  have HS := BO hs
  obtain ⟨oa, oc, rfl⟩ := (hs.front 1 rfl).own_shape
  clear hmv hs tZ
  obtain ⟨hv, wv, hs, ws, hr1, hr2, h1⟩ := aU HS.out
  obtain ⟨wa, wc, rfl⟩ := (h1.front 2 rfl).own_shape
  obtain ⟨N, hN⟩ : ∃ N, N = ws.length := ⟨_, rfl⟩
  have hNQ : Q1.waits.length = N := by rw [← hr2.1, List.length_map, hN]
  have AW := BO (show fI q wr = N by unfold fI; rw [(a7 (h1.blk 0 rfl)).2.2.2.2.2.1, hN])
  have h1' : Sat B D wr (qbC q hv (.slice wa N wc) :: bU hv hs :: aJ bg 18 (.slice wa N wc) N (ws.flatMap au) :: cq (.slice oa out.length oc) out :: l) := by rw [hN]; exact h1
  have ut := BO hr1
  have tR := BO hr2
  have HN := BO hN.symm
  have wA := BO hNQ
  have hwc : N ≤ wc := by obtain ⟨_, _, _, _, hx, hy, _⟩ := (h1'.own 2 rfl).rd; cases hx; exact hy
  have sS := BO h1'
  obtain ⟨c0, c1, c2, c3, c4, c5, cf⟩ := a7 (h1'.blk 0 rfl)
  have hNM : N ≤ 1000 := by omega
  clear h1 h1' hr1 hr2 hN hNQ HS
  go_wp2_with fail
  go_loopw [3, 11] (fun o3 ii wr2 => ∃ i : Nat, ii = .int .i64 i ∧ o3 = (.slice oa out.length oc) ∧ i ≤ N ∧ (∀ j, j < i → et RC Q1 j = false) ∧ Sat B D wr2 (qbC q hv (.slice wa N wc) :: bU hv hs :: aJ bg 18 (.slice wa N wc) N (ws.flatMap au) :: cq (.slice oa out.length oc) out :: l)) (fun _ ii _ => N - (intOf ii).toNat)
  case atStart => exact ⟨0, rfl, rfl, by omega, fun j hj => by omega, sS.out⟩
  case round =>
   obtain ⟨i, rfl, rfl, hi, hcan, hs2⟩ := hrel
   have uS := BO hcan
   have sX := BO hs2
   clear hcan hs2 sS c0 c1 c2 c3 c4 c5 cf
   by_cases hlt : i < N
   ·have hii : (i : Int) < (N : Int) := by omega
    obtain ⟨x, hx⟩ : ∃ x, ws[i]? = some x := ⟨ws[i]'(by rw [HN.out]; exact hlt), List.getElem?_eq_getElem _⟩
    obtain ⟨g, og, rfl, hrng⟩ := aD bM (sX.out.own 2 rfl).rd hx HN.out
    have HL := BO (dk hrng)
    have HX := BO (show Q1.waits[i]? = some (aG x) by rw [← tR.out.1, List.getElem?_map, hx]; rfl)
    have yw := BO hx
    have sU := BO (sX.out.alloc (au x).toArray bg)
    clear hx hrng
    go_upto_region 5 with (first | (refine ag rfl _ _ rfl _ _ rfl _ HL.out ?_) | (refine ax rfl _ _ _ rfl (au x) _ _ rfl rfl (by kernel_rfl) rfl (eA x) ?_))
    clear HL sX
    obtain ⟨W4, hW4, hs4⟩ := Sat.hide sU.out
    rw [← hW4]
    clear hW4 sU
    generalize wr.heap.size = bx at hs4 ⊢
    have hq4 : Sat B D W4.drew (bP D q Q1 :: blk bx (au x).toArray bg :: cq (.slice oa out.length oc) out :: l) := cr ut.out tR.out (by
     show Sat B D W4.drew (qbC q hv (.slice (some ⟨g, og, none⟩) N wc) :: bU hv hs :: aJ bg 18 (.slice (some ⟨g, og, none⟩) N wc) ws.length (ws.flatMap au) :: _)
     rw [HN.out]
     exact ((hs4.drew.front 3 rfl).front 3 rfl).front 3 rfl)
    have wB := BO hq4
    have s5 := BO (Rd.takeE bM (hs4.drew.own 3 rfl).rd (m := i) (by omega) HN.out)
    have uu := BO (show (ws.take i).map aG = Q1.waits.take i by rw [List.map_take, tR.out.1])
    have vW := BO (dk (ai (hs4.drew.blk 0 rfl)))
    obtain ⟨c0, c1, c2, c3, c4, c5, cf⟩ := a7 (hs4.blk 1 rfl)
    have sY := BO hs4
    have hb3 : (i : Int) ≤ (wc : Int) := by omega
    have hmap : Option.map (fun x => Addr.add x 0) (some (⟨g, og, none⟩ : Addr)) = some ⟨g, og, none⟩ := by first | rfl | simp [bZ]
    clear hq4 hs4
    have vH := BO (od (R := RC) HX.out)
    cases hf : et RC Q1 i
    ·rw [hf] at vH
     have HF := BO hf
     clear hf
     refine af [(0, false, 8), (1, false, 8), (2, false, 8), (3, false, 8), (4, false, 8), (5, false, 8), (6, false, 8), (7, false, 8), (8, true, 0)] (by kernel_rfl) (by kernel_rfl) ?_
     iterate 8 (refine ae rfl rfl (fun K hK => ?_); (first | ((refine aj _ _ rfl _ _ rfl _ vW.out ?_); go_simp) | go_simp); refine hK _ ?_; clear hK K)
     refine al rfl ?_
     refine aw rfl (fun K hK => ?_)
     go_simp
     refine (fj x (HD.out.env wB.out) (PH.le.refl _) (tR.out.2 x (List.mem_of_getElem? yw.out)) (fun y hy => tR.out.2 y (List.mem_of_mem_take hy)) s5.out wB.out).mono ?_
     rw [uu.out, ← vH.out]
     rintro e6 w6 ⟨rfl, hk6⟩
     have s0 := BO ((sY.out.drew.kept hk6).drop)
     clear hk6 sY wB s5 vW c0 c1 c2 c3 c4 c5 cf hb3 hmap
     refine hK _ _ ?_
     clear hK K
     refine wpList_nil ?_
     refine And.intro ?_ ?_
     ·go_simp
     refine ap ?_
     go_wp2_with fail
     go_roundw
     case rel => exact ⟨i + 1, by go_num, rfl, by omega, fun j hj => by rcases Nat.lt_succ_iff_lt_or_eq.1 hj with h | rfl; exact uS.out j h; exact HF.out, s0.out⟩
     case measure => simp [intOf]; omega
    ·rw [hf] at vH
     have t7 := BO (jU (R := RC) (q := Q1) (i := i) (by rw [wA.out]; exact hlt) uS.out hf)
     clear hf
     obtain ⟨n1, rfl⟩ : ∃ n1, N = n1 + 1 := ⟨N - 1, by omega⟩
     have hw1 : IntKind.i64.wrap ((i : Int) + 1) = (i : Int) + 1 := IntWalk.i64_in _ (by omega)
     refine af [(0, false, 8), (1, false, 8), (2, false, 8), (3, false, 8), (4, false, 8), (5, false, 8), (6, false, 8), (7, false, 8), (8, true, 0)] (by kernel_rfl) (by kernel_rfl) ?_
     iterate 8 (refine ae rfl rfl (fun K hK => ?_); (first | ((refine aj _ _ rfl _ _ rfl _ vW.out ?_); go_simp) | go_simp); refine hK _ ?_; clear hK K)
     refine al rfl ?_
     refine aw rfl (fun K hK => ?_)
     go_simp
     refine (fj x (HD.out.env wB.out) (PH.le.refl _) (tR.out.2 x (List.mem_of_getElem? yw.out)) (fun y hy => tR.out.2 y (List.mem_of_mem_take hy)) s5.out wB.out).mono ?_
     rw [uu.out, ← vH.out]
     rintro e6 w6 ⟨rfl, hk6⟩
     have hs6 := sY.out.drew.kept hk6
     clear hk6 sY wB s5 vW c0 c1 c2 c3 c4 c5 cf hb3 hmap uu vH
     obtain ⟨c0, c1, c2, c3, c4, c5, cf⟩ := a7 (hs6.blk 1 rfl)
     have s0 := BO (show Sat B D w6 (aJ bg 18 (.slice (some ⟨g, og, none⟩) (n1 + 1) wc) (n1 + 1) (ws.flatMap au) :: blk bx (au x).toArray bg :: qbC q hv (.slice (some ⟨g, og, none⟩) (n1 + 1) wc) :: bU hv hs :: cq (.slice oa out.length oc) out :: l) from hs6.front 3 rfl)
     clear hs6
     refine hK _ _ ?_
     clear hK K
     refine wpList_nil ?_
     refine And.intro ?_ ?_
     ·go_simp
     refine ap ?_
     go_upto_region 7 with (go_at_call 156; refine (nx (n := n1) (i := i) (lk bM ws i).symm (by omega) s0.out).mono ?_; rintro e7 w7 ⟨v7, rfl, hs7⟩; obtain ⟨va, vc, rfl⟩ := hs7.own_shape; clear c0 c1 c2 c3 c4 c5 cf s0; obtain ⟨c0, c1, c2, c3, c4, c5, cf⟩ := a7 (hs7.blk 2 rfl); have td := BO (Sat.set6 (hs7.front 2 rfl) (.slice va n1 vc)); clear hs7)
     obtain ⟨W8, hW8, hs8⟩ := Sat.hide td.out
     rw [← hW8]
     clear hW8 td c0 c1 c2 c3 c4 c5 cf hw1
     have hlw : (ws.eraseIdx i).length = n1 := by rw [List.length_eraseIdx_of_lt (by rw [HN.out]; omega), HN.out]; omega
     have hq8 : Sat B D W8 (bP D q ⟨Q1.held, Q1.waits.eraseIdx i⟩ :: blk bx (au x).toArray bg :: cq (.slice oa out.length oc) out :: l) := cr (ws := ws.eraseIdx i) ut.out ⟨by rw [← tR.out.1]; simp only [List.eraseIdx_eq_take_drop_succ, List.map_append, List.map_take, List.map_drop], fun y hy => tR.out.2 y (List.mem_of_mem_eraseIdx hy)⟩ (by
      show Sat B D W8 (qbC q hv (.slice va n1 vc) :: bU hv hs :: aJ bg 18 (.slice va n1 vc) (ws.eraseIdx i).length ((ws.eraseIdx i).flatMap au) :: _)
      rw [hlw]
      exact (hs8.front 3 rfl).front 1 rfl)
     have zi := BO hq8
     have vW := BO (dk (ai (hq8.blk 1 rfl)))
     clear hq8 hs8 hlw
     go_upto_region 8 with (first | (refine ag rfl _ _ rfl _ _ rfl _ vW.out ?_) | (go_at_call 136; refine (lV x (by show Q1.held.length ≤ 100000; omega) (PH.le.refl _) (tR.out.2 x (List.mem_of_getElem? yw.out)) zi.out).mono ?_; rintro e9 w9 ⟨rfl, hs9⟩; have vX := BO hs9; clear hs9 zi vW))
     have x0 := (d5 (vX.out.blk 1 rfl)).1
     have s9 := BO (show Sat B D (w9.alloc (.cells #[.int .i64 (aG x).o] 3)) (aJ 3 1 (.slice oa out.length oc) out.length (out.map (Value.int .i64)) :: blk w9.heap.size #[.int .i64 (aG x).o] 3 :: bP D q (ci RC ⟨Q1.held, Q1.waits.eraseIdx i⟩ (aG x)) :: blk bx (au x).toArray bg :: l) from (vX.out.alloc _ _).front 3 rfl)
     have s5 := BO (aT (size := 1) (n := 1) (s9.out.blk 1 rfl) rfl (by unfold maxLen; omega))
     go_wp2_with (at_builtin; refine ar _ rfl _ _ 42 rfl 3 i0 _ 1 8 Tryz.underlying42 HI.out.1 HI.out.2.1 HI.out.2.2.1 HI.out.2.2.2 rfl _ out.length _ rfl s9.out _ 1 _ rfl s5.out (by intro u hu; simp at hu; subst hu; rfl) (by unfold maxLen; omega) (by omega) ?_; intro v11 w11 hs11 h11; have s6 := BO hs11; clear hs11 s9 s5 vX x0)
     go_step3
     have hmv := hO (R := RC) t7.out HX.out
     have hlen1 := fF (R := RC) Q1.held (aG x)
     have hlen2 : (Q1.waits.eraseIdx i).length = n1 := by rw [List.length_eraseIdx_of_lt (by rw [wA.out]; omega), wA.out]; omega
     have hs12 : Sat B D w11 (bP D q (ci RC ⟨Q1.held, Q1.waits.eraseIdx i⟩ (aG x)) :: cq v11 (out ++ [(aG x).o]) :: l) := by
      show Sat B D w11 (_ :: aJ 3 1 v11 (out ++ [(aG x).o]).length ((out ++ [(aG x).o]).map (Value.int .i64)) :: l)
      rw [List.length_append, List.map_append]
      exact ((s6.out.swap.drop).front 2 rfl).drop.front 1 rfl
     refine ⟨rfl, ⟨ci RC ⟨Q1.held, Q1.waits.eraseIdx i⟩ (aG x), out ++ [(aG x).o], v11, _, _, _, _, _, _, _, _, _, _, _, _, _, _, _, _, _, _, _, _, _, _, _, _, _, _, _, _, _, _, _, _, _, _, _, _, _, _, _, _, _, _, rfl, ?_, ?_, ?_, hs12⟩, ?_⟩
     ·rw [vu.out, hmv]; simp
     ·show (bX RC Q1.held (aG x)).length + (Q1.waits.eraseIdx i).length ≤ 1000
      have := wA.out
      omega
     ·show (out ++ [(aG x).o]).length + (Q1.waits.eraseIdx i).length ≤ 1000
      have := wA.out
      rw [List.length_append, List.length_singleton]
      omega
     ·rw [AW.out, nN hs12]
      show (Q1.waits.eraseIdx i).length < n1 + 1
      omega
   ·have hii : ¬ ((i : Int) < (N : Int)) := by omega
    have tK := BO (g7 (R := RC) (kl (q := Q1) (fun j hj => uS.out j (by rw [wA.out] at hj; omega))))
    go_wp2_with fail
    simp only [Exit.jump]
    go_ret
    refine ⟨_, rfl, ?_⟩
    rw [vu.out, tK.out, List.append_nil]
    refine cr (hv := hv) (wv := .slice wa N wc) ut.out tR.out ?_
    show Sat B D wr (qbC q hv (.slice wa N wc) :: bU hv hs :: aJ bg 18 (.slice wa N wc) ws.length (ws.flatMap au) :: cq (.slice oa out.length oc) out :: l)
    rw [HN.out]
    exact sX.out
theorem sO {B w : World} {D : PH} {l : List HP} {q F : Nat} {caps : Array Value} {Q : Qm Clm} (p : Ent Clm → Bool) (hD : EnvD D) (hM : Q.held.length + Q.waits.length ≤ 1000) (hent : Enters Tryz.prog F) (HF : ∀ x : EntE,
  OkC D x →
  ∀ (hv wv : Value) (ws : List (EntE)), PredS B D (qbC q hv wv :: bU wv ws :: l) F caps (au x) (p (aG x))) (h : Sat B D w (bP D q Q :: l)) :
  Calls Tryz.prog 111 #[.pointer (some ⟨q, 0, none⟩), .func (.func F) #[] caps] w fun r w' => ∃ v, r = .returned v ∧ Sat B D w' (bP D q (a8 RC Q p).1 :: cq v (a8 RC Q p).2 :: l) := by
 obtain ⟨hv, wv, hs, ws, hr1, hr2, h1⟩ := aU h
 obtain ⟨ha, hc, rfl⟩ := (h1.front 1 rfl).own_shape
 obtain ⟨c0, c1, c2, c3, c4, c5, cf⟩ := a7 (h1.blk 0 rfl)
 have ur := BO (iA (F := F) (caps := caps) (fun x => p (aG x)) rfl hent (h1.front 1 rfl) (fun x hx => (HF x
  (hr1.2 x hx)
  _ _ _)))
 have ut := BO hr1
 have tR := BO hr2
 have HD := BO hD
 clear h h1 hr1 hr2 hent HF hD
 go_enter Tryz.func111, Tryz.ntmps111
 go_upto_region 2 with (go_at_call 108; refine ur.out.mono ?_; rintro e1 w1 ⟨v1, rfl, hs1⟩; obtain ⟨va, vc, rfl⟩ := hs1.own_shape; clear c0 c1 c2 c3 c4 c5 cf ur; obtain ⟨c0, c1, c2, c3, c4, c5, cf⟩ := a7 (hs1.blk 1 rfl); have sS := BO (Sat.set5 (hs1.front 1 rfl) (.slice va (hs.filter (fun x => !p (aG x))).length vc)); clear hs1)
 obtain ⟨W2, hW2, hs2⟩ := Sat.hide sS.out
 rw [← hW2]
 clear hW2 sS c0 c1 c2 c3 c4 c5 cf
 have hq2 : Sat B D W2 (bP D q ⟨Q.held.filter (fun e => !p e), Q.waits⟩ :: l) := cr (hs := hs.filter (fun x => !p (aG x))) ⟨by rw [← ut.out.1, List.filter_map]; rfl, fun x hx => ut.out.2 x (List.mem_filter.1 hx).1⟩ tR.out hs2
 have vu := BO (rV HD.out (by have := List.length_filter_le (fun e => !p e) Q.held; show (Q.held.filter _).length + Q.waits.length ≤ 1000; omega) hq2)
 clear hs2 hq2
 go_wp2_with (go_at_call 110; refine vu.out.mono ?_; rintro e3 w3 ⟨v3, rfl, hs3⟩; have sU := BO hs3; clear hs3 vu)
 go_ret
 exact ⟨_, rfl, sU.out⟩
theorem Clear_C {B w : World} {D : PH} {l : List HP} {q : Nat} {Q : Qm Clm} (o : Int) (hD : EnvD D) (hM : Q.held.length + Q.waits.length ≤ 1000) (h : Sat B D w (bP D q Q :: l)) :
  Calls Tryz.prog 67 #[.pointer (some ⟨q, 0, none⟩), .int .i64 o] w fun r w' => ∃ v, r = .returned v ∧ Sat B D w' (bP D q (a8 RC Q (ofE o)).1 :: cq v (a8 RC Q (ofE o)).2 :: l) := by
 obtain ⟨W1, hW1, hs1⟩ := Sat.hide (h.alloc #[.int .i64 o] 3)
 have sR := BO hW1
 have uD := BO (sO (l := blk w.heap.size #[.int .i64 o] 3 :: l) (F := 112) (caps := #[.pointer (some ⟨w.heap.size, 0, none⟩)]) (ofE o) hD hM (enters_of Tryz.func112 (by kernel_rfl) rfl) (fun x
  _
  _ _ _ W X hx => (rW (hx.blk (X.length + 2) (by simp)) x).2 W (Kept.refl _ _)) hs1.swap)
 clear h hs1 hW1 hD
 go_enter Tryz.func67, Tryz.ntmps67
 go_upto_region 1 with fail
 rw [← sR.out]
 clear sR
 generalize w.heap.size = bx at uD ⊢
 go_wp2_with (go_at_call 111; refine uD.out.mono ?_; rintro e1 w1 ⟨v1, rfl, hs1⟩; have sS := BO hs1; clear hs1 uD)
 go_ret
 exact ⟨_, rfl, (sS.out.front 2 rfl).drop⟩
theorem rX {B w : World} {D : PH} {l : List HP} {q : Nat} {Q : Qm Clm} (hM : Q.held.length + Q.waits.length ≤ 1000000) (h : Sat B D w (bP D q Q :: l)) :
  Calls Tryz.prog 44 #[.pointer (some ⟨q, 0, none⟩)] w fun r w' => r = .returned (.int .i64 ((Q.held.length + Q.waits.length : Nat) : Int)) ∧ Kept (fun _ => False) w w' := by
 obtain ⟨hv, wv, hs, ws, hr1, hr2, h1⟩ := aU h
 obtain ⟨ha, hc, rfl⟩ := (h1.front 1 rfl).own_shape
 obtain ⟨wa, wc, rfl⟩ := (h1.front 2 rfl).own_shape
 have e1 : hs.length = Q.held.length := by rw [← hr1.1, List.length_map]
 have e2 : ws.length = Q.waits.length := by rw [← hr2.1, List.length_map]
 obtain ⟨c0, c1, c2, c3, c4, c5, cf⟩ := a7 (h1.blk 0 rfl)
 rw [e1] at c4
 rw [e2] at c5
 have HK := BO ((Kept.refl (fun _ => False) w).drew)
 clear h h1 hr1 hr2 e1 e2
 generalize Q.held.length = n at *
 generalize Q.waits.length = m at *
 have hw : IntKind.i64.wrap ((n : Int) + (m : Int)) = (n : Int) + (m : Int) := IntWalk.i64_in _ (by omega)
 go_enter Tryz.func44, Tryz.ntmps44
 go_upto_region 3 with fail
 refine af [(0, false, 999), (1, false, 999), (2, false, 999), (3, false, 999), (4, false, 999), (5, false, 999), (6, false, 999), (7, false, 999), (8, false, 999), (9, false, 999), (10, false, 999), (11, false, 999)] (by kernel_rfl) (by kernel_rfl) ?_
 iterate 12 (refine ae rfl rfl (fun K hK => ?_); go_simp; refine hK _ ?_; clear hK K)
 refine ap ?_
 go_wp2_with fail
 go_ret
 exact ⟨by go_num, HK.out⟩
end Go.Proofs.YtgljdkjepdknnaaGreatDoor
