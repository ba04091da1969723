/- The document's queue: all that are free are given (ratlineref10.Queue.Given). -/
import Derived.Test.YtgljdkjepdknnaaGreatDoorML31
import Derived.Test.YtgljdkjepdknnaaGreatDoorML14
set_option maxHeartbeats 64000000
namespace Go.Proofs.YtgljdkjepdknnaaGreatDoor
open Go.ChangeShapes Go.WideShapes Go.ChangeAt Go.RowKit
set_option maxRecDepth 100000
set_option linter.unusedSimpArgs false
def kI (b : Nat) (w : World) : Nat := match w.cell? ⟨b, 1, none⟩ with
 | some (.slice _ n _) => n
 | _ => 0
theorem jr {w : World} {b n : Nat} {t : TypeId} {x : Value} {a : Option Addr} {c : Nat} (h : w.heap[b]? = some (.cells #[x, .slice a n c] t (0, 0))) : kI b w = n := by
 unfold kI
 rw [(aJ h).2.1]
def jw (B : World) (D : PH) (l : List HP) (R : Qm Clm × List Int) (r : Ending) (w' : World) : Prop := ∃ (v iv : Value) (D' : PH), r = .returned (.tuple #[v, iv]) ∧ PH.le D D' ∧ QueD D' v R.1 ∧ Sat B D' w' (cj iv R.2 :: l)
theorem EntsRd.cut {w : World} {ao : Option Addr} {N cap j : Nat} {hs : List EntE} (h : EntsRd w (.slice ao N cap) hs) (hl : hs.length = N) (hj : j ≤ N) : EntsRd w (.slice ao j cap) (hs.take j) := by
 have h1 := h.1
 rw [hl] at h1
 exact ⟨Rd.takeE bT h1 hj hl, fun e he => h.2.1 e (List.mem_of_mem_take he), fun e he => h.2.2 e (List.mem_of_mem_take he)⟩
theorem iP {B w : World} {D : PH} {l : List HP} {v : Value} {Q : Qm Clm} (hq : QueD D v Q) (hM : Q.held.length + Q.waits.length ≤ 1000) (s : Sat B D w l) :
  Calls Tryz.prog 143 #[v] w (jw B D l (bS RC Q)) := by
 obtain ⟨i0, hi, hz0, hz1, hz2⟩ := info_parts gJ
 have HI := Eh (And.intro hi (And.intro hz0 (And.intro hz1 hz2)))
 obtain ⟨k0, ki, kz0, kz1, kz2⟩ := info_parts iu
 have KI := Eh (And.intro ki (And.intro kz0 (And.intro kz1 kz2)))
 obtain ⟨hv, wv, hs, ws, rfl, hH, hW, hhq, hwq⟩ := id hq
 obtain ⟨W1, hW1, hs1⟩ := cG s #[hv, wv] nQ tRq tRq
 have uW := Eh hW1
 have uX := Eh (hs1.own_nil 3 1)
 have HQ := Eh hq
 clear hs1 hW1 s hi hz0 hz1 hz2 ki kz0 kz1 kz2 hq hH hW hhq hwq
 go_enter Tryz.func143, Tryz.ntmps143
 go_upto_region 1 with fail
 rw [← uW.out]
 clear uW
 generalize w.heap.size + 1 = b2 at *
 generalize w.heap.size = b1 at *
 go_wp2_with fail
 go_loopw [4, 5] (fun ot ii wr => ∃ (j : Nat) (Q1 : Qm Clm) (D1 : PH) (hv wv : Value) (out : List Int) (oa : Option Addr) (oc : Nat), ii = .int .i64 j ∧ ot = .slice oa out.length oc ∧ PH.le D D1 ∧ QueD D1 (.agg #[hv, wv]) Q1 ∧ j ≤ Q1.waits.length ∧ (∀ i, i < j → eU RC Q1 i = false) ∧ bS RC Q = ((bS RC Q1).1, out ++ (bS RC Q1).2) ∧ Q1.held.length + Q1.waits.length ≤ 1000 ∧ out.length + Q1.waits.length ≤ 1000 ∧ Sat B D1 wr (cj (.slice oa out.length oc) out :: blk b1 #[hv, wv] tRq :: blk b2 nQ tRq :: l)) (fun _ ii wr => kI b1 wr * 10000 + (kI b1 wr - (intOf ii).toNat))
 case atStart => exact ⟨0, Q, D, hv, wv, [], none, 0, rfl, rfl, PH.le.refl _, HQ.out, by omega, fun i hi => by omega, by simp, hM, by simp; omega, uX.out⟩
 case round =>
  obtain ⟨j, Q1, D1, hv, wv, out, oa, oc, rfl, rfl, hle, hq1, hj, hcan, hmv, hb1, hb2, hs2⟩ := hrel
  have yx := Eh hq1
  obtain ⟨hv', wv', hs, ws, hvv, hH, hW, hhq, hwq⟩ := hq1
  obtain ⟨ha, hcp, rfl⟩ := hH.1.shape
  obtain ⟨wa, wc, rfl⟩ := hW.1.shape
  obtain ⟨rfl, rfl⟩ : hv = .slice ha hs.length hcp ∧ wv = .slice wa ws.length wc := by simpa using hvv
  have vz := Eh hle
  have HH := Eh hH
  have wQ := Eh hW
  have xL := Eh hhq
  have xJ := Eh hwq
  have xt := Eh hcan
  have xY := Eh hmv
  have vg := Eh hs2
  have hwl : ws.length ≤ Q1.waits.length ∧ Q1.waits.length ≤ ws.length := by have := congrArg List.length hwq; rw [List.length_map] at this; omega
  have yJ := Eh (jr (hs2.blk 1 rfl))
  obtain ⟨q0, q1, qf⟩ := aJ (hs2.blk 1 rfl)
  clear hvv hle hH hW hhq hwq hcan hmv hs2 uX HQ
  by_cases hlt : j < ws.length
  ·have hji : (j : Int) < (ws.length : Int) := by omega
   obtain ⟨e, he⟩ : ∃ e, ws[j]? = some e := ⟨ws[j]'hlt, List.getElem?_eq_getElem _⟩
   have HX := Eh (show Q1.waits[j]? = some (aE e) by rw [← xJ.out, List.getElem?_map, he]; rfl)
   have Bm := Eh (wQ.out.2 e (List.mem_of_getElem? he))
   obtain ⟨g, og, hg, hr, _⟩ := dQ (wQ.out.rd vg.out) rfl he
   subst hg
   have HL := Eh (el hr)
   have uY := Eh (vg.out.alloc (ay e).toArray tRe)
   clear hr he vg
   go_upto_region 6 with (first | (refine ai rfl _ _ rfl _ _ rfl _ HL.out ?_) | (refine ax rfl _ _ _ rfl (ay e) _ _ rfl rfl (by kernel_rfl) rfl (eE e) ?_))
   obtain ⟨W4, hW4, hs4⟩ := Sat.hide uY.out
   rw [← hW4]
   clear hW4 uY HL q0 q1 qf
   generalize wr.heap.size = bz at hs4 ⊢
   obtain ⟨q0, q1, qf⟩ := aJ (hs4.blk 2 rfl)
   have x0 := (ei (hs4.blk 0 rfl)).1
   have vX := Eh (az (w := W4.drew) (dZ (hs4.drew.blk 0 rfl)))
   have hme1 := eB (w := W4.drew) e.o (HH.out.rd hs4.drew) (Bm.out.1.rd hs4.drew) Bm.out.2
   rw [dY (bd RC e.o e.x.c) hs, xL.out] at hme1
   have hme2 := fun (W : World) (hW : Sat B D1 W (blk bz (ay e).toArray tRe :: cj (.slice oa out.length oc) out :: blk b1 #[.slice ha hs.length hcp, .slice (some ⟨g, og, none⟩) ws.length wc] tRq :: blk b2 nQ tRq :: l)) => eB (w := W) e.o ((wQ.out.rd hW).cut rfl (Nat.le_of_lt hlt)) (Bm.out.1.rd hW) Bm.out.2
   rw [dY (bd RC e.o e.x.c) (ws.take j), List.map_take, xJ.out] at hme2
   have yr := Eh (show eU RC Q1 j = (!(Q1.held.any (bd RC e.o e.x.c)) && !((Q1.waits.take j).any (bd RC e.o e.x.c))) from qp (R := RC) HX.out)
   generalize Q1.held.any (bd RC e.o e.x.c) = m1 at hme1 yr
   generalize (Q1.waits.take j).any (bd RC e.o e.x.c) = m2 at hme2 yr
   have xQ := Eh hme1
   have xx := Eh hme2
   have vh := Eh hs4
   have hb3 : (j : Int) ≤ (wc : Int) := by have := (wQ.out.rd hs4).1; obtain ⟨_, _, _, _, hx, hy, _⟩ := this; cases hx; omega
   have hmap : Option.map (fun x => Addr.add x 0) (some (⟨g, og, none⟩ : Addr)) = some ⟨g, og, none⟩ := by first | rfl | simp [cn]
   clear hs4 hme1 hme2
   cases m1
   ·cases m2
    ·have wu := Eh (lD (R := RC) (q := Q1) (i := j) (by omega) xt.out (by rw [yr.out]; rfl))
     refine ag [(0, false, 6), (1, false, 6), (2, false, 6), (3, false, 6), (4, false, 6), (5, false, 6), (6, true, 0), (7, false, 16), (8, false, 16), (9, false, 16), (10, false, 16), (11, false, 16), (12, false, 16), (13, false, 16), (14, false, 16), (15, false, 16), (16, true, 0), (17, false, 999)] (by kernel_rfl) (by kernel_rfl) ?_
     iterate 6 (refine af rfl rfl (fun K hK => ?_); (first | ((refine aj _ _ rfl _ _ rfl _ vX.out ?_); go_simp) | go_simp); refine hK _ ?_; clear hK K)
     refine al rfl ?_
     refine aw rfl (fun K hK => ?_)
     go_simp
     refine xQ.out.mono ?_
     rintro e5 w5 ⟨rfl, hk5⟩
     have hs5 := vh.out.drew.kept hk5
     clear hk5 xQ vh vX q0 q1 qf x0
     obtain ⟨q0, q1, qf⟩ := aJ (hs5.blk 2 rfl)
     have x0 := (ei (hs5.blk 0 rfl)).1
     have vX := Eh (az (w := w5) (dZ (hs5.blk 0 rfl)))
     have uZ := Eh hs5
     clear hs5
     refine hK _ _ ?_
     clear hK K
     refine wpList_nil ?_
     refine And.intro ?_ ?_
     ·go_simp
     refine af rfl rfl (fun K hK => ?_); (first | ((refine aj _ _ rfl _ _ rfl _ vX.out ?_); go_simp) | go_simp); refine hK _ ?_; clear hK K
     iterate 8 (first | (refine aq rfl rfl ?_; simp only [Act.put, Ei, Ej, Ek, El, Em, En]) | (refine am rfl rfl (fun K hK => ?_); (first | ((refine aj _ _ rfl _ _ rfl _ vX.out ?_); go_simp) | go_simp); refine hK _ ?_; clear hK K))
     refine al rfl ?_
     refine aw rfl (fun K hK => ?_)
     go_simp
     refine (xx.out _ uZ.out).mono ?_
     rintro e6 w6 ⟨rfl, hk6⟩
     have vi := Eh ((uZ.out.kept hk6).front 1 rfl)
     clear hk6 xx uZ vX q0 q1 qf x0 hb3 hmap
     refine hK _ _ ?_
     clear hK K
     refine wpList_nil ?_
     refine And.intro ?_ ?_
     ·go_simp
     refine af rfl rfl (fun K hK => ?_); (first | ((refine aj _ _ rfl _ _ rfl _ vX.out ?_); go_simp) | go_simp); refine hK _ ?_; clear hK K
     refine ar ?_
     go_upto_region 7 with fail
     have x0 := (ei (vi.out.blk 1 rfl)).1
     have vn := Eh (show Sat B D1 (w6.alloc (.cells #[.int .i64 e.o] 3)) (cj (.slice oa out.length oc) out :: blk w6.heap.size #[.int .i64 e.o] 3 :: blk bz (ay e).toArray tRe :: blk b1 #[.slice ha hs.length hcp, .slice (some ⟨g, og, none⟩) ws.length wc] tRq :: blk b2 nQ tRq :: l) from (vi.out.alloc _ _).front 1 rfl)
     have zH := Eh (aS (size := 1) (n := 1) (vn.out.blk 1 rfl) rfl (by unfold maxLen; omega))
     clear vi
     go_upto_region 8 with (at_builtin; refine au _ rfl _ _ 42 rfl 3 k0 _ 1 8 Tryz.underlying42 KI.out.1 KI.out.2.1 KI.out.2.2.1 KI.out.2.2.2 rfl _ out.length _ rfl vn.out _ 1 _ rfl zH.out (by intro u hu; simp at hu; subst hu; rfl) (by unfold maxLen; (try simp only [List.length_take, List.length_drop]); omega) (by (try simp only [List.length_take, List.length_drop]); omega) ?_; intro v8 w8 hs8 h8; obtain ⟨va8, vc8, rfl⟩ := hs8.own_shape; have vw := Eh hs8; clear hs8 h8 vn zH x0)
     have hwj : IntKind.i64.wrap ((j : Int) + 1) = ((j + 1 : Nat) : Int) := by rw [IntWalk.i64_in _ (by omega)]; omega
     have hj1 : j ≤ ws.length := by omega
     have hj2 : j + 1 ≤ ws.length := by omega
     obtain ⟨q0, q1, qf⟩ := aJ (vw.out.blk 3 rfl)
     have xk := Eh (vw.out.own_nil tRe 18)
     clear vw
     go_upto_region 10 with (first | (refine fj rfl _ _ rfl j rfl rfl wQ.out rfl hj1 ?_; intro v14 hv14; have yu := Eh (hv14.rd xk.out).1; clear hv14) | (at_builtin; refine au _ rfl _ _ ew rfl tRe i0 _ 18 200 Tryz.underlying56 HI.out.1 HI.out.2.1 HI.out.2.2.1 HI.out.2.2.2 rfl _ 0 _ rfl xk.out _ (ws.take j).length _ rfl yu.out (dD _) (by unfold maxLen; (try simp only [List.length_take, List.length_drop]); omega) (by (try simp only [List.length_take, List.length_drop]); omega) ?_; intro v9 w9 hs9 h9; have vu := Eh hs9; clear hs9 h9 xk yu q0 q1 qf))
     obtain ⟨q0, q1, qf⟩ := aJ (vu.out.blk 4 rfl)
     go_upto_region 11 with (first | (refine gE rfl _ _ rfl (j + 1) rfl (by first | rfl | exact congrArg (Value.int .i64) hwj) wQ.out rfl hj2 ?_; intro v15 hv15; have BM := Eh (hv15.rd vu.out).1; clear hv15) | (at_builtin; refine au _ rfl _ _ ew rfl tRe i0 _ 18 200 Tryz.underlying56 HI.out.1 HI.out.2.1 HI.out.2.2.1 HI.out.2.2.2 rfl _ (0 + (ws.take j).length) _ rfl vu.out _ (ws.drop (j + 1)).length _ rfl BM.out (dD _) (by unfold maxLen; (try simp only [List.length_take, List.length_drop]); omega) (by (try simp only [List.length_take, List.length_drop]); omega) ?_; intro v10 w10 hs10 h10; have vo := Eh hs10; clear hs10 vu BM q0 q1 qf))
     obtain ⟨q0, q1, qf⟩ := aJ (vo.out.blk 4 rfl)
     have vl := Eh (Sat.set2b (vo.out.front 4 rfl) v10)
     go_upto_region 12 with fail
     obtain ⟨W12, hW12, hs12⟩ := Sat.hide vl.out
     rw [← hW12]
     clear hW12 vl vo q0 q1 qf hwj
     have hln : (ws.eraseIdx j).length = 0 + (ws.take j).length + (ws.drop (j + 1)).length := by rw [List.eraseIdx_eq_take_drop_succ, List.length_append]; omega
     obtain ⟨D2, hle2, hE2, hs13⟩ := dk (zs := ws.eraseIdx j) (v := v10) (by show Sat B D1 _ (aI tRe 18 _ (ws.eraseIdx j).length _ :: _); rw [hln, List.eraseIdx_eq_take_drop_succ, List.flatMap_append]; have h9 := hs12.front 1 rfl; simpa using h9) (fun x hx => wQ.out.2 x (List.mem_of_mem_eraseIdx hx))
     have vM := Eh (show Sat B D2 W12 (blk b1 #[.slice ha hs.length hcp, v10] tRq :: cj (.slice va8 (out ++ [e.o]).length vc8) (out ++ [e.o]) :: blk w6.heap.size #[.int .i64 e.o] 3 :: blk bz (ay e).toArray tRe :: blk b2 nQ tRq :: l) by
      show Sat B D2 W12 (_ :: aI 3 1 (.slice va8 (out ++ [e.o]).length vc8) (out ++ [e.o]).length ((out ++ [e.o]).map (Value.int .i64)) :: _)
      rw [List.length_append, List.map_append]
      exact hs13)
     have Ao := Eh (show QueD D2 (.agg #[.slice ha hs.length hcp, v10]) ⟨Q1.held, Q1.waits.eraseIdx j⟩ from ⟨_, _, hs, ws.eraseIdx j, rfl, HH.out.mono hle2, hE2, xL.out, by rw [← xJ.out]; simp only [List.eraseIdx_eq_take_drop_succ, List.map_append, List.map_take, List.map_drop]⟩)
     have vv := Eh hle2
     have vU := Eh (bv (ak (vM.out.blk 0 rfl)))
     have Ak := Eh (el (ak (vM.out.blk 3 rfl)))
     have xN := Eh (jU e Ao.out ⟨Bm.out.1.mono hle2, Bm.out.2⟩ (by show Q1.held.length ≤ 100000; omega) vM.out)
     clear hs12 hs13 hE2 hle2 vM
     go_upto_region 13 with (first | (refine ai rfl _ _ rfl _ _ rfl _ vU.out ?_) | (refine ai rfl _ _ rfl _ _ rfl _ Ak.out ?_) | (go_at_call 149; refine xN.out.mono ?_; rintro e16 w16 ⟨v16, D16, rfl, hle16, hq16, hs16⟩; have CC := Eh hq16; obtain ⟨hv2, wv2, hs2, ws2, rfl, hH2, hW2, _, hwq2⟩ := hq16; obtain ⟨wa2, wc2, rfl⟩ := hW2.1.shape; have CD := Eh hwq2; have xC := Eh (show ∀ u ∈ [hv2, .slice wa2 ws2.length wc2], u.oneCell' = true from fun u hu => by simp at hu; rcases hu with rfl | rfl; exact hH2.1.oneV; rfl); have BN := Eh hle16; have vS := Eh hs16; clear hs16 hle16 hH2 hW2 hwq2 xN vU Ak) | (refine ap rfl _ _ _ rfl tRq b1 rfl [hv2, .slice wa2 ws2.length wc2] rfl _ vS.out (by kernel_rfl) rfl xC.out ?_; intro w17 hs17; have vO := Eh hs17; clear hs17 vS))
     have hmv := iQ (R := RC) wu.out HX.out
     have hlen1 := gp (R := RC) Q1.held (aE e)
     have hlen2 : (Q1.waits.eraseIdx j).length + 1 = ws.length := by rw [List.length_eraseIdx_of_lt (by omega)]; omega
     have hw2 : ws2.length = (Q1.waits.eraseIdx j).length := by rw [← List.length_map (f := aE), CD.out]; rfl
     have zP := Eh (jr (vO.out.blk 0 rfl))
     have hw0 : IntKind.i64.wrap (-1 + 1) = ((0 : Nat) : Int) := by rw [IntWalk.i64_in _ (by omega)]; rfl
     go_wp2_with fail
     go_roundw
     case rel =>
      refine ⟨0, cP RC ⟨Q1.held, Q1.waits.eraseIdx j⟩ (aE e), D16, hv2, .slice wa2 ws2.length wc2, out ++ [e.o], va8, vc8, by first | rfl | exact congrArg (Value.int .i64) hw0, by rw [List.length_append]; rfl, (vz.out.trans vv.out).trans BN.out, CC.out, Nat.zero_le _, fun i hi => by omega, ?_, ?_, ?_, ?_⟩
      ·rw [xY.out, hmv]; simp
      ·show (cy RC Q1.held (aE e)).length + (Q1.waits.eraseIdx j).length ≤ 1000
       omega
      ·show (out ++ [e.o]).length + (Q1.waits.eraseIdx j).length ≤ 1000
       rw [List.length_append, List.length_singleton]
       omega
      ·exact ((vO.out.front 2 rfl).drop.front 2 rfl).drop.swap
     case measure =>
      rw [yJ.out, zP.out]
      simp [intOf]
      omega
    ·refine ag [(0, false, 6), (1, false, 6), (2, false, 6), (3, false, 6), (4, false, 6), (5, false, 6), (6, true, 0), (7, false, 16), (8, false, 16), (9, false, 16), (10, false, 16), (11, false, 16), (12, false, 16), (13, false, 16), (14, false, 16), (15, false, 16), (16, true, 0), (17, false, 999)] (by kernel_rfl) (by kernel_rfl) ?_
     iterate 6 (refine af rfl rfl (fun K hK => ?_); (first | ((refine aj _ _ rfl _ _ rfl _ vX.out ?_); go_simp) | go_simp); refine hK _ ?_; clear hK K)
     refine al rfl ?_
     refine aw rfl (fun K hK => ?_)
     go_simp
     refine xQ.out.mono ?_
     rintro e5 w5 ⟨rfl, hk5⟩
     have hs5 := vh.out.drew.kept hk5
     clear hk5 xQ vh vX q0 q1 qf x0
     obtain ⟨q0, q1, qf⟩ := aJ (hs5.blk 2 rfl)
     have x0 := (ei (hs5.blk 0 rfl)).1
     have vX := Eh (az (w := w5) (dZ (hs5.blk 0 rfl)))
     have uZ := Eh hs5
     clear hs5
     refine hK _ _ ?_
     clear hK K
     refine wpList_nil ?_
     refine And.intro ?_ ?_
     ·go_simp
     refine af rfl rfl (fun K hK => ?_); (first | ((refine aj _ _ rfl _ _ rfl _ vX.out ?_); go_simp) | go_simp); refine hK _ ?_; clear hK K
     iterate 8 (first | (refine aq rfl rfl ?_; simp only [Act.put, Ei, Ej, Ek, El, Em, En]) | (refine am rfl rfl (fun K hK => ?_); (first | ((refine aj _ _ rfl _ _ rfl _ vX.out ?_); go_simp) | go_simp); refine hK _ ?_; clear hK K))
     refine al rfl ?_
     refine aw rfl (fun K hK => ?_)
     go_simp
     refine (xx.out _ uZ.out).mono ?_
     rintro e6 w6 ⟨rfl, hk6⟩
     have vi := Eh ((uZ.out.kept hk6).drop)
     clear hk6 xx uZ vX q0 q1 qf x0 hb3 hmap
     refine hK _ _ ?_
     clear hK K
     refine wpList_nil ?_
     refine And.intro ?_ ?_
     ·go_simp
     refine af rfl rfl (fun K hK => ?_); (first | ((refine aj _ _ rfl _ _ rfl _ vX.out ?_); go_simp) | go_simp); refine hK _ ?_; clear hK K
     refine ar ?_
     have wC := Eh (show eU RC Q1 j = false by rw [yr.out]; rfl)
     have zP := Eh (jr (vi.out.blk 1 rfl))
     go_wp2_with fail
     go_roundw
     case rel => exact ⟨j + 1, Q1, D1, .slice ha hs.length hcp, .slice (some ⟨g, og, none⟩) ws.length wc, out, oa, oc, by go_num, rfl, vz.out, yx.out, by omega, fun i hi => by rcases Nat.lt_succ_iff_lt_or_eq.1 hi with h | rfl; exact xt.out i h; exact wC.out, xY.out, hb1, hb2, vi.out⟩
     case measure => rw [yJ.out, zP.out]; simp [intOf]; omega
   ·refine ag [(0, false, 6), (1, false, 6), (2, false, 6), (3, false, 6), (4, false, 6), (5, false, 6), (6, true, 0), (7, false, 16), (8, false, 16), (9, false, 16), (10, false, 16), (11, false, 16), (12, false, 16), (13, false, 16), (14, false, 16), (15, false, 16), (16, true, 0), (17, false, 999)] (by kernel_rfl) (by kernel_rfl) ?_
    iterate 6 (refine af rfl rfl (fun K hK => ?_); (first | ((refine aj _ _ rfl _ _ rfl _ vX.out ?_); go_simp) | go_simp); refine hK _ ?_; clear hK K)
    refine al rfl ?_
    refine aw rfl (fun K hK => ?_)
    go_simp
    refine xQ.out.mono ?_
    rintro e5 w5 ⟨rfl, hk5⟩
    have hs5 := vh.out.drew.kept hk5
    clear hk5 xQ vh vX q0 q1 qf x0
    obtain ⟨q0, q1, qf⟩ := aJ (hs5.blk 2 rfl)
    have x0 := (ei (hs5.blk 0 rfl)).1
    have vX := Eh (az (w := w5) (dZ (hs5.blk 0 rfl)))
    have uZ := Eh hs5
    clear hs5
    refine hK _ _ ?_
    clear hK K
    refine wpList_nil ?_
    refine And.intro ?_ ?_
    ·go_simp
    refine af rfl rfl (fun K hK => ?_); (first | ((refine aj _ _ rfl _ _ rfl _ vX.out ?_); go_simp) | go_simp); refine hK _ ?_; clear hK K
    iterate 8 (first | (refine aq rfl rfl ?_; simp only [Act.put, Ei, Ej, Ek, El, Em, En]) | (refine am rfl rfl (fun K hK => ?_); (first | ((refine aj _ _ rfl _ _ rfl _ vX.out ?_); go_simp) | go_simp); refine hK _ ?_; clear hK K))
    refine al rfl ?_
    refine bO rfl ?_
    simp only [Act.put, Ei, Ej, Ek]
    refine wpList_nil ?_
    have vi := Eh uZ.out.drop
    clear xx uZ vX q0 q1 qf x0 hb3 hmap
    refine And.intro ?_ ?_
    ·go_simp
    refine af rfl rfl (fun K hK => ?_); (first | ((refine aj _ _ rfl _ _ rfl _ vX.out ?_); go_simp) | go_simp); refine hK _ ?_; clear hK K
    refine ar ?_
    have wC := Eh (show eU RC Q1 j = false by rw [yr.out]; rfl)
    have zP := Eh (jr (vi.out.blk 1 rfl))
    go_wp2_with fail
    go_roundw
    case rel => exact ⟨j + 1, Q1, D1, .slice ha hs.length hcp, .slice (some ⟨g, og, none⟩) ws.length wc, out, oa, oc, by go_num, rfl, vz.out, yx.out, by omega, fun i hi => by rcases Nat.lt_succ_iff_lt_or_eq.1 hi with h | rfl; exact xt.out i h; exact wC.out, xY.out, hb1, hb2, vi.out⟩
    case measure => rw [yJ.out, zP.out]; simp [intOf]; omega
  ·have hji : ¬ ((j : Int) < (ws.length : Int)) := by omega
   have vT := Eh (iR (R := RC) (kW (q := Q1) (fun i hi => xt.out i (by omega))))
   have vU := Eh (bv (ak (vg.out.blk 1 rfl)))
   have xC := Eh (show ∀ u ∈ [Value.slice ha hs.length hcp, .slice wa ws.length wc], u.oneCell' = true from fun u hu => by simp at hu; rcases hu with rfl | rfl <;> rfl)
   have uY := Eh (vg.out.front 2 rfl)
   clear vg
   go_wp2_with (first | (refine ai rfl _ _ rfl _ _ rfl _ vU.out ?_) | (refine ap rfl _ _ _ rfl tRq b2 rfl [.slice ha hs.length hcp, .slice wa ws.length wc] rfl nQ uY.out (by kernel_rfl) rfl xC.out ?_; intro w20 hs20; have vq := Eh hs20; clear hs20 uY vU))
   refine bodyPost_ret (aL rfl _ _ rfl (bv (ak (vq.out.blk 0 rfl)))) rfl ?_
   rw [xY.out, vT.out, List.append_nil]
   exact ⟨_, _, D1, rfl, vz.out, yx.out, (vq.out.drop.swap).drop⟩
end Go.Proofs.YtgljdkjepdknnaaGreatDoor
