/- The document's queue: all that are free are given (ratlineref10.Queue.Given). -/
import Derived.Test.YtgljdkjepdknnaaGreatDoorMT31
import Derived.Test.YtgljdkjepdknnaaGreatDoorMT14
set_option maxHeartbeats 64000000
namespace Go.Proofs.YtgljdkjepdknnaaGreatDoor
open Go.ChangeShapes Go.WideShapes Go.ChangeAt Go.RowKit
set_option maxRecDepth 100000
set_option linter.unusedSimpArgs false
def jC (b : Nat) (w : World) : Nat := match w.cell? ⟨b, 1, none⟩ with
 | some (.slice _ n _) => n
 | _ => 0
theorem iz {w : World} {b n : Nat} {t : TypeId} {x : Value} {a : Option Addr} {c : Nat} (h : w.heap[b]? = some (.cells #[x, .slice a n c] t (0, 0))) : jC b w = n := by
 unfold jC
 rw [(aH h).2.1]
def ip (B : World) (D : PH) (l : List HP) (R : Qm Clm × List Int) (r : Ending) (w' : World) : Prop := ∃ (v iv : Value) (D' : PH), r = .returned (.tuple #[v, iv]) ∧ PH.le D D' ∧ QueD D' v R.1 ∧ Sat B D' w' (cq iv R.2 :: l)
theorem EntsRd.cut {w : World} {ao : Option Addr} {N cap j : Nat} {hs : List EntE} (h : EntsRd w (.slice ao N cap) hs) (hl : hs.length = N) (hj : j ≤ N) : EntsRd w (.slice ao j cap) (hs.take j) := by
 have h1 := h.1
 rw [hl] at h1
 exact ⟨Rd.takeE bM h1 hj hl, fun e he => h.2.1 e (List.mem_of_mem_take he), fun e he => h.2.2 e (List.mem_of_mem_take he)⟩
theorem g9 {B w : World} {D : PH} {l : List HP} {v : Value} {Q : Qm Clm} (hq : QueD D v Q) (hM : Q.held.length + Q.waits.length ≤ 1000) (s : Sat B D w l) :
  Calls Tryz.prog 143 #[v] w (ip B D l (bJ RC Q)) := by
 obtain ⟨i0, hi, hz0, hz1, hz2⟩ := info_parts gA
 have HI := BO (And.intro hi (And.intro hz0 (And.intro hz1 hz2)))
 obtain ⟨k0, ki, kz0, kz1, kz2⟩ := info_parts jA
 have KI := BO (And.intro ki (And.intro kz0 (And.intro kz1 kz2)))
 obtain ⟨hv, wv, hs, ws, rfl, hH, hW, hhq, hwq⟩ := id hq
 obtain ⟨W1, hW1, hs1⟩ := cy s #[hv, wv] nQ tRq tRq
 have sR := BO hW1
 have sS := BO (hs1.own_nil 3 1)
 have HQ := BO hq
 clear hs1 hW1 s hi hz0 hz1 hz2 ki kz0 kz1 kz2 hq hH hW hhq hwq
 go_enter Tryz.func143, Tryz.ntmps143
 go_upto_region 1 with fail
 rw [← sR.out]
 clear sR
 generalize w.heap.size + 1 = b2 at *
 generalize w.heap.size = b1 at *
 go_wp2_with fail
 go_loopw [4, 5] (fun ot ii wr => ∃ (j : Nat) (Q1 : Qm Clm) (D1 : PH) (hv wv : Value) (out : List Int) (oa : Option Addr) (oc : Nat), ii = .int .i64 j ∧ ot = .slice oa out.length oc ∧ PH.le D D1 ∧ QueD D1 (.agg #[hv, wv]) Q1 ∧ j ≤ Q1.waits.length ∧ (∀ i, i < j → et RC Q1 i = false) ∧ bJ RC Q = ((bJ RC Q1).1, out ++ (bJ RC Q1).2) ∧ Q1.held.length + Q1.waits.length ≤ 1000 ∧ out.length + Q1.waits.length ≤ 1000 ∧ Sat B D1 wr (cq (.slice oa out.length oc) out :: blk b1 #[hv, wv] tRq :: blk b2 nQ tRq :: l)) (fun _ ii wr => jC b1 wr * 10000 + (jC b1 wr - (intOf ii).toNat))
 case atStart => exact ⟨0, Q, D, hv, wv, [], none, 0, rfl, rfl, PH.le.refl _, HQ.out, by omega, fun i hi => by omega, by simp, hM, by simp; omega, sS.out⟩
 case round =>
  obtain ⟨j, Q1, D1, hv, wv, out, oa, oc, rfl, rfl, hle, hq1, hj, hcan, hmv, hb1, hb2, hs2⟩ := hrel
  have vO := BO hq1
  obtain ⟨hv', wv', hs, ws, hvv, hH, hW, hhq, hwq⟩ := hq1
  obtain ⟨ha, hcp, rfl⟩ := hH.1.shape
  obtain ⟨wa, wc, rfl⟩ := hW.1.shape
  obtain ⟨rfl, rfl⟩ : hv = .slice ha hs.length hcp ∧ wv = .slice wa ws.length wc := by simpa using hvv
  have tt := BO hle
  have HH := BO hH
  have uN := BO hW
  have vp := BO hhq
  have vv := BO hwq
  have uS := BO hcan
  have vu := BO hmv
  have sX := BO hs2
  have hwl : ws.length ≤ Q1.waits.length ∧ Q1.waits.length ≤ ws.length := by have := congrArg List.length hwq; rw [List.length_map] at this; omega
  have Ar := BO (iz (hs2.blk 1 rfl))
  obtain ⟨q0, q1, qf⟩ := aH (hs2.blk 1 rfl)
  clear hvv hle hH hW hhq hwq hcan hmv hs2 sS HQ
  by_cases hlt : j < ws.length
  ·have hji : (j : Int) < (ws.length : Int) := by omega
   obtain ⟨e, he⟩ : ∃ e, ws[j]? = some e := ⟨ws[j]'hlt, List.getElem?_eq_getElem _⟩
   have HX := BO (show Q1.waits[j]? = some (aG e) by rw [← vv.out, List.getElem?_map, he]; rfl)
   have yV := BO (uN.out.2 e (List.mem_of_getElem? he))
   obtain ⟨g, og, hg, hr, _⟩ := eu (uN.out.rd sX.out) rfl he
   subst hg
   have HL := BO (dW hr)
   have sU := BO (sX.out.alloc (au e).toArray tRe)
   clear hr he sX
   go_upto_region 6 with (first | (refine ag rfl _ _ rfl _ _ rfl _ HL.out ?_) | (refine ax rfl _ _ _ rfl (au e) _ _ rfl rfl (by kernel_rfl) rfl (eA e) ?_))
   obtain ⟨W4, hW4, hs4⟩ := Sat.hide sU.out
   rw [← hW4]
   clear hW4 sU HL q0 q1 qf
   generalize wr.heap.size = bz at hs4 ⊢
   obtain ⟨q0, q1, qf⟩ := aH (hs4.blk 2 rfl)
   have x0 := (d5 (hs4.blk 0 rfl)).1
   have tG := BO (ay (w := W4.drew) (dR (hs4.drew.blk 0 rfl)))
   have hme1 := eh (w := W4.drew) e.o (HH.out.rd hs4.drew) (yV.out.1.rd hs4.drew) yV.out.2
   rw [dL (bC RC e.o e.x.c) hs, vp.out] at hme1
   have hme2 := fun (W : World) (hW : Sat B D1 W (blk bz (au e).toArray tRe :: cq (.slice oa out.length oc) out :: blk b1 #[.slice ha hs.length hcp, .slice (some ⟨g, og, none⟩) ws.length wc] tRq :: blk b2 nQ tRq :: l)) => eh (w := W) e.o ((uN.out.rd hW).cut rfl (Nat.le_of_lt hlt)) (yV.out.1.rd hW) yV.out.2
   rw [dL (bC RC e.o e.x.c) (ws.take j), List.map_take, vv.out] at hme2
   have vH := BO (show et RC Q1 j = (!(Q1.held.any (bC RC e.o e.x.c)) && !((Q1.waits.take j).any (bC RC e.o e.x.c))) from od (R := RC) HX.out)
   generalize Q1.held.any (bC RC e.o e.x.c) = m1 at hme1 vH
   generalize (Q1.waits.take j).any (bC RC e.o e.x.c) = m2 at hme2 vH
   have vl := BO hme1
   have uZ := BO hme2
   have sY := BO hs4
   have hb3 : (j : Int) ≤ (wc : Int) := by have := (uN.out.rd hs4).1; obtain ⟨_, _, _, _, hx, hy, _⟩ := this; cases hx; omega
   have hmap : Option.map (fun x => Addr.add x 0) (some (⟨g, og, none⟩ : Addr)) = some ⟨g, og, none⟩ := by first | rfl | simp [bZ]
   clear hs4 hme1 hme2
   cases m1
   ·cases m2
    ·have t7 := BO (jU (R := RC) (q := Q1) (i := j) (by omega) uS.out (by rw [vH.out]; rfl))
     refine af [(0, false, 6), (1, false, 6), (2, false, 6), (3, false, 6), (4, false, 6), (5, false, 6), (6, true, 0), (7, false, 16), (8, false, 16), (9, false, 16), (10, false, 16), (11, false, 16), (12, false, 16), (13, false, 16), (14, false, 16), (15, false, 16), (16, true, 0), (17, false, 999)] (by kernel_rfl) (by kernel_rfl) ?_
     iterate 6 (refine ae rfl rfl (fun K hK => ?_); (first | ((refine aj _ _ rfl _ _ rfl _ tG.out ?_); go_simp) | go_simp); refine hK _ ?_; clear hK K)
     refine al rfl ?_
     refine aw rfl (fun K hK => ?_)
     go_simp
     refine vl.out.mono ?_
     rintro e5 w5 ⟨rfl, hk5⟩
     have hs5 := sY.out.drew.kept hk5
     clear hk5 vl sY tG q0 q1 qf x0
     obtain ⟨q0, q1, qf⟩ := aH (hs5.blk 2 rfl)
     have x0 := (d5 (hs5.blk 0 rfl)).1
     have tG := BO (ay (w := w5) (dR (hs5.blk 0 rfl)))
     have sV := BO hs5
     clear hs5
     refine hK _ _ ?_
     clear hK K
     refine wpList_nil ?_
     refine And.intro ?_ ?_
     ·go_simp
     refine ae rfl rfl (fun K hK => ?_); (first | ((refine aj _ _ rfl _ _ rfl _ tG.out ?_); go_simp) | go_simp); refine hK _ ?_; clear hK K
     iterate 8 (first | (refine am rfl rfl ?_; simp only [Act.put, BP, BQ, BR, BS, BT, BU]) | (refine ak rfl rfl (fun K hK => ?_); (first | ((refine aj _ _ rfl _ _ rfl _ tG.out ?_); go_simp) | go_simp); refine hK _ ?_; clear hK K))
     refine al rfl ?_
     refine aw rfl (fun K hK => ?_)
     go_simp
     refine (uZ.out _ sV.out).mono ?_
     rintro e6 w6 ⟨rfl, hk6⟩
     have s0 := BO ((sV.out.kept hk6).front 1 rfl)
     clear hk6 uZ sV tG q0 q1 qf x0 hb3 hmap
     refine hK _ _ ?_
     clear hK K
     refine wpList_nil ?_
     refine And.intro ?_ ?_
     ·go_simp
     refine ae rfl rfl (fun K hK => ?_); (first | ((refine aj _ _ rfl _ _ rfl _ tG.out ?_); go_simp) | go_simp); refine hK _ ?_; clear hK K
     refine ap ?_
     go_upto_region 7 with fail
     have x0 := (d5 (s0.out.blk 1 rfl)).1
     have td := BO (show Sat B D1 (w6.alloc (.cells #[.int .i64 e.o] 3)) (cq (.slice oa out.length oc) out :: blk w6.heap.size #[.int .i64 e.o] 3 :: blk bz (au e).toArray tRe :: blk b1 #[.slice ha hs.length hcp, .slice (some ⟨g, og, none⟩) ws.length wc] tRq :: blk b2 nQ tRq :: l) from (s0.out.alloc _ _).front 1 rfl)
     have xg := BO (aT (size := 1) (n := 1) (td.out.blk 1 rfl) rfl (by unfold maxLen; omega))
     clear s0
     go_upto_region 8 with (at_builtin; refine ar _ rfl _ _ 42 rfl 3 k0 _ 1 8 Tryz.underlying42 KI.out.1 KI.out.2.1 KI.out.2.2.1 KI.out.2.2.2 rfl _ out.length _ rfl td.out _ 1 _ rfl xg.out (by intro u hu; simp at hu; subst hu; rfl) (by unfold maxLen; (try simp only [List.length_take, List.length_drop]); omega) (by (try simp only [List.length_take, List.length_drop]); omega) ?_; intro v8 w8 hs8 h8; obtain ⟨va8, vc8, rfl⟩ := hs8.own_shape; have tj := BO hs8; clear hs8 h8 td xg x0)
     have hwj : IntKind.i64.wrap ((j : Int) + 1) = ((j + 1 : Nat) : Int) := by rw [IntWalk.i64_in _ (by omega)]; omega
     have hj1 : j ≤ ws.length := by omega
     have hj2 : j + 1 ≤ ws.length := by omega
     obtain ⟨q0, q1, qf⟩ := aH (tj.out.blk 3 rfl)
     have uE := BO (tj.out.own_nil tRe 18)
     clear tj
     go_upto_region 10 with (first | (refine fN rfl _ _ rfl j rfl rfl uN.out rfl hj1 ?_; intro v14 hv14; have vL := BO (hv14.rd uE.out).1; clear hv14) | (at_builtin; refine ar _ rfl _ _ d9 rfl tRe i0 _ 18 200 Tryz.underlying56 HI.out.1 HI.out.2.1 HI.out.2.2.1 HI.out.2.2.2 rfl _ 0 _ rfl uE.out _ (ws.take j).length _ rfl vL.out (dF _) (by unfold maxLen; (try simp only [List.length_take, List.length_drop]); omega) (by (try simp only [List.length_take, List.length_drop]); omega) ?_; intro v9 w9 hs9 h9; have ti := BO hs9; clear hs9 h9 uE vL q0 q1 qf))
     obtain ⟨q0, q1, qf⟩ := aH (ti.out.blk 4 rfl)
     go_upto_region 11 with (first | (refine fU rfl _ _ rfl (j + 1) rfl (by first | rfl | exact congrArg (Value.int .i64) hwj) uN.out rfl hj2 ?_; intro v15 hv15; have zx := BO (hv15.rd ti.out).1; clear hv15) | (at_builtin; refine ar _ rfl _ _ d9 rfl tRe i0 _ 18 200 Tryz.underlying56 HI.out.1 HI.out.2.1 HI.out.2.2.1 HI.out.2.2.2 rfl _ (0 + (ws.take j).length) _ rfl ti.out _ (ws.drop (j + 1)).length _ rfl zx.out (dF _) (by unfold maxLen; (try simp only [List.length_take, List.length_drop]); omega) (by (try simp only [List.length_take, List.length_drop]); omega) ?_; intro v10 w10 hs10 h10; have s9 := BO hs10; clear hs10 ti zx q0 q1 qf))
     obtain ⟨q0, q1, qf⟩ := aH (s9.out.blk 4 rfl)
     have s6 := BO (Sat.set2b (s9.out.front 4 rfl) v10)
     go_upto_region 12 with fail
     obtain ⟨W12, hW12, hs12⟩ := Sat.hide s6.out
     rw [← hW12]
     clear hW12 s6 s9 q0 q1 qf hwj
     have hln : (ws.eraseIdx j).length = 0 + (ws.take j).length + (ws.drop (j + 1)).length := by rw [List.eraseIdx_eq_take_drop_succ, List.length_append]; omega
     obtain ⟨D2, hle2, hE2, hs13⟩ := cX (zs := ws.eraseIdx j) (v := v10) (by show Sat B D1 _ (aJ tRe 18 _ (ws.eraseIdx j).length _ :: _); rw [hln, List.eraseIdx_eq_take_drop_succ, List.flatMap_append]; have h9 := hs12.front 1 rfl; simpa using h9) (fun x hx => uN.out.2 x (List.mem_of_mem_eraseIdx hx))
     have tH := BO (show Sat B D2 W12 (blk b1 #[.slice ha hs.length hcp, v10] tRq :: cq (.slice va8 (out ++ [e.o]).length vc8) (out ++ [e.o]) :: blk w6.heap.size #[.int .i64 e.o] 3 :: blk bz (au e).toArray tRe :: blk b2 nQ tRq :: l) by
      show Sat B D2 W12 (_ :: aJ 3 1 (.slice va8 (out ++ [e.o]).length vc8) (out ++ [e.o]).length ((out ++ [e.o]).map (Value.int .i64)) :: _)
      rw [List.length_append, List.map_append]
      exact hs13)
     have zy := BO (show QueD D2 (.agg #[.slice ha hs.length hcp, v10]) ⟨Q1.held, Q1.waits.eraseIdx j⟩ from ⟨_, _, hs, ws.eraseIdx j, rfl, HH.out.mono hle2, hE2, vp.out, by rw [← vv.out]; simp only [List.eraseIdx_eq_take_drop_succ, List.map_append, List.map_take, List.map_drop]⟩)
     have tr := BO hle2
     have tL := BO (bi (ai (tH.out.blk 0 rfl)))
     have xR := BO (dW (ai (tH.out.blk 3 rfl)))
     have ve := BO (iP e zy.out ⟨yV.out.1.mono hle2, yV.out.2⟩ (by show Q1.held.length ≤ 100000; omega) tH.out)
     clear hs12 hs13 hE2 hle2 tH
     go_upto_region 13 with (first | (refine ag rfl _ _ rfl _ _ rfl _ tL.out ?_) | (refine ag rfl _ _ rfl _ _ rfl _ xR.out ?_) | (go_at_call 149; refine ve.out.mono ?_; rintro e16 w16 ⟨v16, D16, rfl, hle16, hq16, hs16⟩; have As := BO hq16; obtain ⟨hv2, wv2, hs2, ws2, rfl, hH2, hW2, _, hwq2⟩ := hq16; obtain ⟨wa2, wc2, rfl⟩ := hW2.1.shape; have At := BO hwq2; have vy := BO (show ∀ u ∈ [hv2, .slice wa2 ws2.length wc2], u.oneCell' = true from fun u hu => by simp at hu; rcases hu with rfl | rfl; exact hH2.1.oneV; rfl); have zz := BO hle16; have tS := BO hs16; clear hs16 hle16 hH2 hW2 hwq2 ve tL xR) | (refine aq rfl _ _ _ rfl tRq b1 rfl [hv2, .slice wa2 ws2.length wc2] rfl _ tS.out (by kernel_rfl) rfl vy.out ?_; intro w17 hs17; have tM := BO hs17; clear hs17 tS))
     have hmv := hO (R := RC) t7.out HX.out
     have hlen1 := fF (R := RC) Q1.held (aG e)
     have hlen2 : (Q1.waits.eraseIdx j).length + 1 = ws.length := by rw [List.length_eraseIdx_of_lt (by omega)]; omega
     have hw2 : ws2.length = (Q1.waits.eraseIdx j).length := by rw [← List.length_map (f := aG), At.out]; rfl
     have xu := BO (iz (tM.out.blk 0 rfl))
     have hw0 : IntKind.i64.wrap (-1 + 1) = ((0 : Nat) : Int) := by rw [IntWalk.i64_in _ (by omega)]; rfl
     go_wp2_with fail
     go_roundw
     case rel =>
      refine ⟨0, ci RC ⟨Q1.held, Q1.waits.eraseIdx j⟩ (aG e), D16, hv2, .slice wa2 ws2.length wc2, out ++ [e.o], va8, vc8, by first | rfl | exact congrArg (Value.int .i64) hw0, by rw [List.length_append]; rfl, (tt.out.trans tr.out).trans zz.out, As.out, Nat.zero_le _, fun i hi => by omega, ?_, ?_, ?_, ?_⟩
      ·rw [vu.out, hmv]; simp
      ·show (bX RC Q1.held (aG e)).length + (Q1.waits.eraseIdx j).length ≤ 1000
       omega
      ·show (out ++ [e.o]).length + (Q1.waits.eraseIdx j).length ≤ 1000
       rw [List.length_append, List.length_singleton]
       omega
      ·exact ((tM.out.front 2 rfl).drop.front 2 rfl).drop.swap
     case measure =>
      rw [Ar.out, xu.out]
      simp [intOf]
      omega
    ·refine af [(0, false, 6), (1, false, 6), (2, false, 6), (3, false, 6), (4, false, 6), (5, false, 6), (6, true, 0), (7, false, 16), (8, false, 16), (9, false, 16), (10, false, 16), (11, false, 16), (12, false, 16), (13, false, 16), (14, false, 16), (15, false, 16), (16, true, 0), (17, false, 999)] (by kernel_rfl) (by kernel_rfl) ?_
     iterate 6 (refine ae rfl rfl (fun K hK => ?_); (first | ((refine aj _ _ rfl _ _ rfl _ tG.out ?_); go_simp) | go_simp); refine hK _ ?_; clear hK K)
     refine al rfl ?_
     refine aw rfl (fun K hK => ?_)
     go_simp
     refine vl.out.mono ?_
     rintro e5 w5 ⟨rfl, hk5⟩
     have hs5 := sY.out.drew.kept hk5
     clear hk5 vl sY tG q0 q1 qf x0
     obtain ⟨q0, q1, qf⟩ := aH (hs5.blk 2 rfl)
     have x0 := (d5 (hs5.blk 0 rfl)).1
     have tG := BO (ay (w := w5) (dR (hs5.blk 0 rfl)))
     have sV := BO hs5
     clear hs5
     refine hK _ _ ?_
     clear hK K
     refine wpList_nil ?_
     refine And.intro ?_ ?_
     ·go_simp
     refine ae rfl rfl (fun K hK => ?_); (first | ((refine aj _ _ rfl _ _ rfl _ tG.out ?_); go_simp) | go_simp); refine hK _ ?_; clear hK K
     iterate 8 (first | (refine am rfl rfl ?_; simp only [Act.put, BP, BQ, BR, BS, BT, BU]) | (refine ak rfl rfl (fun K hK => ?_); (first | ((refine aj _ _ rfl _ _ rfl _ tG.out ?_); go_simp) | go_simp); refine hK _ ?_; clear hK K))
     refine al rfl ?_
     refine aw rfl (fun K hK => ?_)
     go_simp
     refine (uZ.out _ sV.out).mono ?_
     rintro e6 w6 ⟨rfl, hk6⟩
     have s0 := BO ((sV.out.kept hk6).drop)
     clear hk6 uZ sV tG q0 q1 qf x0 hb3 hmap
     refine hK _ _ ?_
     clear hK K
     refine wpList_nil ?_
     refine And.intro ?_ ?_
     ·go_simp
     refine ae rfl rfl (fun K hK => ?_); (first | ((refine aj _ _ rfl _ _ rfl _ tG.out ?_); go_simp) | go_simp); refine hK _ ?_; clear hK K
     refine ap ?_
     have ug := BO (show et RC Q1 j = false by rw [vH.out]; rfl)
     have xu := BO (iz (s0.out.blk 1 rfl))
     go_wp2_with fail
     go_roundw
     case rel => exact ⟨j + 1, Q1, D1, .slice ha hs.length hcp, .slice (some ⟨g, og, none⟩) ws.length wc, out, oa, oc, by go_num, rfl, tt.out, vO.out, by omega, fun i hi => by rcases Nat.lt_succ_iff_lt_or_eq.1 hi with h | rfl; exact uS.out i h; exact ug.out, vu.out, hb1, hb2, s0.out⟩
     case measure => rw [Ar.out, xu.out]; simp [intOf]; omega
   ·refine af [(0, false, 6), (1, false, 6), (2, false, 6), (3, false, 6), (4, false, 6), (5, false, 6), (6, true, 0), (7, false, 16), (8, false, 16), (9, false, 16), (10, false, 16), (11, false, 16), (12, false, 16), (13, false, 16), (14, false, 16), (15, false, 16), (16, true, 0), (17, false, 999)] (by kernel_rfl) (by kernel_rfl) ?_
    iterate 6 (refine ae rfl rfl (fun K hK => ?_); (first | ((refine aj _ _ rfl _ _ rfl _ tG.out ?_); go_simp) | go_simp); refine hK _ ?_; clear hK K)
    refine al rfl ?_
    refine aw rfl (fun K hK => ?_)
    go_simp
    refine vl.out.mono ?_
    rintro e5 w5 ⟨rfl, hk5⟩
    have hs5 := sY.out.drew.kept hk5
    clear hk5 vl sY tG q0 q1 qf x0
    obtain ⟨q0, q1, qf⟩ := aH (hs5.blk 2 rfl)
    have x0 := (d5 (hs5.blk 0 rfl)).1
    have tG := BO (ay (w := w5) (dR (hs5.blk 0 rfl)))
    have sV := BO hs5
    clear hs5
    refine hK _ _ ?_
    clear hK K
    refine wpList_nil ?_
    refine And.intro ?_ ?_
    ·go_simp
    refine ae rfl rfl (fun K hK => ?_); (first | ((refine aj _ _ rfl _ _ rfl _ tG.out ?_); go_simp) | go_simp); refine hK _ ?_; clear hK K
    iterate 8 (first | (refine am rfl rfl ?_; simp only [Act.put, BP, BQ, BR, BS, BT, BU]) | (refine ak rfl rfl (fun K hK => ?_); (first | ((refine aj _ _ rfl _ _ rfl _ tG.out ?_); go_simp) | go_simp); refine hK _ ?_; clear hK K))
    refine al rfl ?_
    refine bI rfl ?_
    simp only [Act.put, BP, BQ, BR]
    refine wpList_nil ?_
    have s0 := BO sV.out.drop
    clear uZ sV tG q0 q1 qf x0 hb3 hmap
    refine And.intro ?_ ?_
    ·go_simp
    refine ae rfl rfl (fun K hK => ?_); (first | ((refine aj _ _ rfl _ _ rfl _ tG.out ?_); go_simp) | go_simp); refine hK _ ?_; clear hK K
    refine ap ?_
    have ug := BO (show et RC Q1 j = false by rw [vH.out]; rfl)
    have xu := BO (iz (s0.out.blk 1 rfl))
    go_wp2_with fail
    go_roundw
    case rel => exact ⟨j + 1, Q1, D1, .slice ha hs.length hcp, .slice (some ⟨g, og, none⟩) ws.length wc, out, oa, oc, by go_num, rfl, tt.out, vO.out, by omega, fun i hi => by rcases Nat.lt_succ_iff_lt_or_eq.1 hi with h | rfl; exact uS.out i h; exact ug.out, vu.out, hb1, hb2, s0.out⟩
    case measure => rw [Ar.out, xu.out]; simp [intOf]; omega
  ·have hji : ¬ ((j : Int) < (ws.length : Int)) := by omega
   have tK := BO (g7 (R := RC) (kl (q := Q1) (fun i hi => uS.out i (by omega))))
   have tL := BO (bi (ai (sX.out.blk 1 rfl)))
   have vy := BO (show ∀ u ∈ [Value.slice ha hs.length hcp, .slice wa ws.length wc], u.oneCell' = true from fun u hu => by simp at hu; rcases hu with rfl | rfl <;> rfl)
   have sU := BO (sX.out.front 2 rfl)
   clear sX
   go_wp2_with (first | (refine ag rfl _ _ rfl _ _ rfl _ tL.out ?_) | (refine aq rfl _ _ _ rfl tRq b2 rfl [.slice ha hs.length hcp, .slice wa ws.length wc] rfl nQ sU.out (by kernel_rfl) rfl vy.out ?_; intro w20 hs20; have te := BO hs20; clear hs20 sU tL))
   refine bodyPost_ret (aL rfl _ _ rfl (bi (ai (te.out.blk 0 rfl)))) rfl ?_
   rw [vu.out, tK.out, List.append_nil]
   exact ⟨_, _, D1, rfl, tt.out, vO.out, (te.out.drop.swap).drop⟩
end Go.Proofs.YtgljdkjepdknnaaGreatDoor
