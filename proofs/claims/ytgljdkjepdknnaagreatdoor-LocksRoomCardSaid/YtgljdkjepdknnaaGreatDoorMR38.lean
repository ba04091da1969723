/- The document's queue: all that are free are given (ratlineref10.Queue.Given). -/
import Derived.Test.YtgljdkjepdknnaaGreatDoorMR37
import Derived.Test.YtgljdkjepdknnaaGreatDoorMR16
namespace Go.Proofs.YtgljdkjepdknnaaGreatDoor
open Go.ChangeShapes Go.WideShapes Go.ChangeAt Go.RowKit
set_option maxRecDepth 100000
set_option linter.unusedSimpArgs false

def waitsAt (b : Nat) (w : World) : Nat := match w.cell? ⟨b, 1, none⟩ with
 | some (.slice _ n _) => n
 | _ => 0
theorem waits_at {w : World} {b n : Nat} {t : TypeId} {x : Value} {a : Option Addr} {c : Nat} (h : w.heap[b]? = some (.cells #[x, .slice a n c] t (0, 0))) : waitsAt b w = n := by
 unfold waitsAt
 rw [(cells2 h).2.1]
def GivenGot (B : World) (D : PH) (l : List HP) (R : Qm Clm × List Int) (r : Ending) (w' : World) : Prop := ∃ (v iv : Value) (D' : PH), r = .returned (.tuple #[v, iv]) ∧ PH.le D D' ∧ QueD D' v R.1 ∧ Sat B D' w' (intsP iv R.2 :: l)
theorem EntsRd.cut {w : World} {ao : Option Addr} {N cap j : Nat} {hs : List EntE} (h : EntsRd w (.slice ao N cap) hs) (hl : hs.length = N) (hj : j ≤ N) : EntsRd w (.slice ao j cap) (hs.take j) := by
 have h1 := h.1
 rw [hl] at h1
 exact ⟨Rd.takeE lenC h1 hj hl, fun e he => h.2.1 e (List.mem_of_mem_take he), fun e he => h.2.2 e (List.mem_of_mem_take he)⟩
set_option maxHeartbeats 16000000 in
theorem rqGiven_ok {B w : World} {D : PH} {l : List HP} {v : Value} {Q : Qm Clm} (hq : QueD D v Q) (hM : Q.held.length + Q.waits.length ≤ 1000) (s : Sat B D w l) :
  Calls Tryz.prog 143 #[v] w (GivenGot B D l (movedQ RC Q)) := by
 obtain ⟨i0, hi, hz0, hz1, hz2⟩ := info_parts infoRe
 have HI := Lib.hid (And.intro hi (And.intro hz0 (And.intro hz1 hz2)))
 obtain ⟨k0, ki, kz0, kz1, kz2⟩ := info_parts infoInt
 have KI := Lib.hid (And.intro ki (And.intro kz0 (And.intro kz1 kz2)))
 obtain ⟨hv, wv, hs, ws, rfl, hH, hW, hhq, hwq⟩ := id hq
 obtain ⟨W1, hW1, hs1⟩ := two_new s #[hv, wv] nQ tRq tRq
 have HW1 := Lib.hid hW1
 have HS1 := Lib.hid (hs1.own_nil 3 1)
 have HQ := Lib.hid hq
 clear hs1 hW1 s hi hz0 hz1 hz2 ki kz0 kz1 kz2 hq hH hW hhq hwq
 go_enter Tryz.func143, Tryz.ntmps143
 go_upto_region 1 with fail
 rw [← HW1.out]
 clear HW1
 generalize w.heap.size + 1 = b2 at *
 generalize w.heap.size = b1 at *
 go_wp2_with fail
 go_loopw [4, 5] (fun ot ii wr => ∃ (j : Nat) (Q1 : Qm Clm) (D1 : PH) (hv wv : Value) (out : List Int) (oa : Option Addr) (oc : Nat), ii = .int .i64 j ∧ ot = .slice oa out.length oc ∧ PH.le D D1 ∧ QueD D1 (.agg #[hv, wv]) Q1 ∧ j ≤ Q1.waits.length ∧ (∀ i, i < j → canAt RC Q1 i = false) ∧ movedQ RC Q = ((movedQ RC Q1).1, out ++ (movedQ RC Q1).2) ∧ Q1.held.length + Q1.waits.length ≤ 1000 ∧ out.length + Q1.waits.length ≤ 1000 ∧ Sat B D1 wr (intsP (.slice oa out.length oc) out :: blk b1 #[hv, wv] tRq :: blk b2 nQ tRq :: l)) (fun _ ii wr => waitsAt b1 wr * 10000 + (waitsAt b1 wr - (intOf ii).toNat))
 case atStart => exact ⟨0, Q, D, hv, wv, [], none, 0, rfl, rfl, PH.le.refl _, HQ.out, by omega, fun i hi => by omega, by simp, hM, by simp; omega, HS1.out⟩
 case round =>
  obtain ⟨j, Q1, D1, hv, wv, out, oa, oc, rfl, rfl, hle, hq1, hj, hcan, hmv, hb1, hb2, hs2⟩ := hrel
  have HQ1 := Lib.hid hq1
  obtain ⟨hv', wv', hs, ws, hvv, hH, hW, hhq, hwq⟩ := hq1
  obtain ⟨ha, hcp, rfl⟩ := hH.1.shape
  obtain ⟨wa, wc, rfl⟩ := hW.1.shape
  obtain ⟨rfl, rfl⟩ : hv = .slice ha hs.length hcp ∧ wv = .slice wa ws.length wc := by simpa using hvv
  have HLE := Lib.hid hle
  have HH := Lib.hid hH
  have HWD := Lib.hid hW
  have HHQ := Lib.hid hhq
  have HWQ := Lib.hid hwq
  have HCAN := Lib.hid hcan
  have HMV := Lib.hid hmv
  have HS2 := Lib.hid hs2
  have hwl : ws.length ≤ Q1.waits.length ∧ Q1.waits.length ≤ ws.length := by have := congrArg List.length hwq; rw [List.length_map] at this; omega
  have HWA := Lib.hid (waits_at (hs2.blk 1 rfl))
  obtain ⟨q0, q1, qf⟩ := cells2 (hs2.blk 1 rfl)
  clear hvv hle hH hW hhq hwq hcan hmv hs2 HS1 HQ
  by_cases hlt : j < ws.length
  ·have hji : (j : Int) < (ws.length : Int) := by omega
   obtain ⟨e, he⟩ : ∃ e, ws[j]? = some e := ⟨ws[j]'hlt, List.getElem?_eq_getElem _⟩
   have HX := Lib.hid (show Q1.waits[j]? = some (entC e) by rw [← HWQ.out, List.getElem?_map, he]; rfl)
   have HEO := Lib.hid (HWD.out.2 e (List.mem_of_getElem? he))
   obtain ⟨g, og, hg, hr, _⟩ := entAt (HWD.out.rd HS2.out) rfl he
   subst hg
   have HL := Lib.hid (loadRe hr)
   have HS3 := Lib.hid (HS2.out.alloc (cellsC e).toArray tRe)
   clear hr he HS2
   go_upto_region 6 with (first | (refine wpList_ld rfl _ _ rfl _ _ rfl _ HL.out ?_) | (refine wpList_store_new rfl _ _ _ rfl (cellsC e) _ _ rfl rfl (by kernel_rfl) rfl (oneC e) ?_))
   obtain ⟨W4, hW4, hs4⟩ := Sat.hide HS3.out
   rw [← hW4]
   clear hW4 HS3 HL q0 q1 qf
   generalize wr.heap.size = bz at hs4 ⊢
   obtain ⟨q0, q1, qf⟩ := cells2 (hs4.blk 2 rfl)
   have x0 := (boxC (hs4.blk 0 rfl)).1
   have HLZ := Lib.hid (loadCl (w := W4.drew) (boxCl (hs4.drew.blk 0 rfl)))
   have hme1 := rqMeets_ok (w := W4.drew) e.o (HH.out.rd hs4.drew) (HEO.out.1.rd hs4.drew) HEO.out.2
   rw [any_map_C (meetsE RC e.o e.x.c) hs, HHQ.out] at hme1
   have hme2 := fun (W : World) (hW : Sat B D1 W (blk bz (cellsC e).toArray tRe :: intsP (.slice oa out.length oc) out :: blk b1 #[.slice ha hs.length hcp, .slice (some ⟨g, og, none⟩) ws.length wc] tRq :: blk b2 nQ tRq :: l)) => rqMeets_ok (w := W) e.o ((HWD.out.rd hW).cut rfl (Nat.le_of_lt hlt)) (HEO.out.1.rd hW) HEO.out.2
   rw [any_map_C (meetsE RC e.o e.x.c) (ws.take j), List.map_take, HWQ.out] at hme2
   have HCE := Lib.hid (show canAt RC Q1 j = (!(Q1.held.any (meetsE RC e.o e.x.c)) && !((Q1.waits.take j).any (meetsE RC e.o e.x.c))) from can_at (R := RC) HX.out)
   generalize Q1.held.any (meetsE RC e.o e.x.c) = m1 at hme1 HCE
   generalize (Q1.waits.take j).any (meetsE RC e.o e.x.c) = m2 at hme2 HCE
   have HM1 := Lib.hid hme1
   have HM2 := Lib.hid hme2
   have HS4 := Lib.hid hs4
   have hb3 : (j : Int) ≤ (wc : Int) := by have := (HWD.out.rd hs4).1; obtain ⟨_, _, _, _, hx, hy, _⟩ := this; cases hx; omega
   have hmap : Option.map (fun x => Addr.add x 0) (some (⟨g, og, none⟩ : Addr)) = some ⟨g, og, none⟩ := by first | rfl | simp [add_none]
   clear hs4 hme1 hme2
   cases m1
   ·cases m2
    ·have HFF := Lib.hid (first_at (R := RC) (q := Q1) (i := j) (by omega) HCAN.out (by rw [HCE.out]; rfl))
     refine wp_region_canon [(0, false, 6), (1, false, 6), (2, false, 6), (3, false, 6), (4, false, 6), (5, false, 6), (6, true, 0), (7, false, 16), (8, false, 16), (9, false, 16), (10, false, 16), (11, false, 16), (12, false, 16), (13, false, 16), (14, false, 16), (15, false, 16), (16, true, 0), (17, false, 999)] (by kernel_rfl) (by kernel_rfl) ?_
     iterate 6 (refine wpCan_read rfl rfl (fun K hK => ?_); (first | ((refine still_ld _ _ rfl _ _ rfl _ HLZ.out ?_); go_simp) | go_simp); refine hK _ ?_; clear hK K)
     refine wpCan_eff rfl ?_
     refine wpList_do rfl (fun K hK => ?_)
     go_simp
     refine HM1.out.mono ?_
     rintro e5 w5 ⟨rfl, hk5⟩
     have hs5 := HS4.out.drew.kept hk5
     clear hk5 HM1 HS4 HLZ q0 q1 qf x0
     obtain ⟨q0, q1, qf⟩ := cells2 (hs5.blk 2 rfl)
     have x0 := (boxC (hs5.blk 0 rfl)).1
     have HLZ := Lib.hid (loadCl (w := w5) (boxCl (hs5.blk 0 rfl)))
     have HS5 := Lib.hid hs5
     clear hs5
     refine hK _ _ ?_
     clear hK K
     refine wpList_nil ?_
     refine And.intro ?_ ?_
     ·go_simp
     iterate 1 (refine wpCan_read rfl rfl (fun K hK => ?_); (first | ((refine still_ld _ _ rfl _ _ rfl _ HLZ.out ?_); go_simp) | go_simp); refine hK _ ?_; clear hK K)
     iterate 8 (first | (refine wpCan_no rfl rfl ?_; simp only [Act.put, List.setIfInBounds_toArray, List.set_cons_succ, List.set_cons_zero, List.getElem_toArray, List.getElem_cons_succ, List.getElem_cons_zero]) | (refine wpCan_yes rfl rfl (fun K hK => ?_); (first | ((refine still_ld _ _ rfl _ _ rfl _ HLZ.out ?_); go_simp) | go_simp); refine hK _ ?_; clear hK K))
     refine wpCan_eff rfl ?_
     refine wpList_do rfl (fun K hK => ?_)
     go_simp
     refine (HM2.out _ HS5.out).mono ?_
     rintro e6 w6 ⟨rfl, hk6⟩
     have HS6 := Lib.hid ((HS5.out.kept hk6).front 1 rfl)
     clear hk6 HM2 HS5 HLZ q0 q1 qf x0 hb3 hmap
     refine hK _ _ ?_
     clear hK K
     refine wpList_nil ?_
     refine And.intro ?_ ?_
     ·go_simp
     iterate 1 (refine wpCan_read rfl rfl (fun K hK => ?_); (first | ((refine still_ld _ _ rfl _ _ rfl _ HLZ.out ?_); go_simp) | go_simp); refine hK _ ?_; clear hK K)
     refine wpCan_nil ?_
     go_upto_region 7 with fail
     have x0 := (boxC (HS6.out.blk 1 rfl)).1
     have HS7 := Lib.hid (show Sat B D1 (w6.alloc (.cells #[.int .i64 e.o] 3)) (intsP (.slice oa out.length oc) out :: blk w6.heap.size #[.int .i64 e.o] 3 :: blk bz (cellsC e).toArray tRe :: blk b1 #[.slice ha hs.length hcp, .slice (some ⟨g, og, none⟩) ws.length wc] tRq :: blk b2 nQ tRq :: l) from (HS6.out.alloc _ _).front 1 rfl)
     have HRD7 := Lib.hid (rd_block (size := 1) (n := 1) (HS7.out.blk 1 rfl) rfl (by unfold maxLen; omega))
     clear HS6
     go_upto_region 8 with (at_builtin; refine wpList_append_Sat _ rfl _ _ 42 rfl 3 k0 _ 1 8 Tryz.underlying42 KI.out.1 KI.out.2.1 KI.out.2.2.1 KI.out.2.2.2 rfl _ out.length _ rfl HS7.out _ 1 _ rfl HRD7.out (by intro u hu; simp at hu; subst hu; rfl) (by unfold maxLen; (try simp only [List.length_take, List.length_drop]); omega) (by (try simp only [List.length_take, List.length_drop]); omega) ?_; intro v8 w8 hs8 h8; obtain ⟨va8, vc8, rfl⟩ := hs8.own_shape; have HS8 := Lib.hid hs8; clear hs8 h8 HS7 HRD7 x0)
     have hwj : IntKind.i64.wrap ((j : Int) + 1) = ((j + 1 : Nat) : Int) := by rw [IntWalk.i64_in _ (by omega)]; omega
     have hj1 : j ≤ ws.length := by omega
     have hj2 : j + 1 ≤ ws.length := by omega
     obtain ⟨q0, q1, qf⟩ := cells2 (HS8.out.blk 3 rfl)
     have HSN := Lib.hid (HS8.out.own_nil tRe 18)
     clear HS8
     go_upto_region 10 with (first | (refine wpList_cut_h rfl _ _ rfl j rfl rfl HWD.out rfl hj1 ?_; intro v14 hv14; have HV14 := Lib.hid (hv14.rd HSN.out).1; clear hv14) | (at_builtin; refine wpList_append_Sat _ rfl _ _ tREs rfl tRe i0 _ 18 200 Tryz.underlying56 HI.out.1 HI.out.2.1 HI.out.2.2.1 HI.out.2.2.2 rfl _ 0 _ rfl HSN.out _ (ws.take j).length _ rfl HV14.out (flat_one18 _) (by unfold maxLen; (try simp only [List.length_take, List.length_drop]); omega) (by (try simp only [List.length_take, List.length_drop]); omega) ?_; intro v9 w9 hs9 h9; have HS9 := Lib.hid hs9; clear hs9 h9 HSN HV14 q0 q1 qf))
     obtain ⟨q0, q1, qf⟩ := cells2 (HS9.out.blk 4 rfl)
     go_upto_region 11 with (first | (refine wpList_cut_l rfl _ _ rfl (j + 1) rfl (by first | rfl | exact congrArg (Value.int .i64) hwj) HWD.out rfl hj2 ?_; intro v15 hv15; have HV15 := Lib.hid (hv15.rd HS9.out).1; clear hv15) | (at_builtin; refine wpList_append_Sat _ rfl _ _ tREs rfl tRe i0 _ 18 200 Tryz.underlying56 HI.out.1 HI.out.2.1 HI.out.2.2.1 HI.out.2.2.2 rfl _ (0 + (ws.take j).length) _ rfl HS9.out _ (ws.drop (j + 1)).length _ rfl HV15.out (flat_one18 _) (by unfold maxLen; (try simp only [List.length_take, List.length_drop]); omega) (by (try simp only [List.length_take, List.length_drop]); omega) ?_; intro v10 w10 hs10 h10; have HS10 := Lib.hid hs10; clear hs10 HS9 HV15 q0 q1 qf))
     obtain ⟨q0, q1, qf⟩ := cells2 (HS10.out.blk 4 rfl)
     have HS11 := Lib.hid (Sat.set2b (HS10.out.front 4 rfl) v10)
     go_upto_region 12 with fail
     obtain ⟨W12, hW12, hs12⟩ := Sat.hide HS11.out
     rw [← hW12]
     clear hW12 HS11 HS10 q0 q1 qf hwj
     have hln : (ws.eraseIdx j).length = 0 + (ws.take j).length + (ws.drop (j + 1)).length := by rw [List.eraseIdx_eq_take_drop_succ, List.length_append]; omega
     obtain ⟨D2, hle2, hE2, hs13⟩ := entsR_give (zs := ws.eraseIdx j) (v := v10) (by show Sat B D1 _ (ownS tRe 18 _ (ws.eraseIdx j).length _ :: _); rw [hln, List.eraseIdx_eq_take_drop_succ, List.flatMap_append]; have h9 := hs12.front 1 rfl; simpa using h9) (fun x hx => HWD.out.2 x (List.mem_of_mem_eraseIdx hx))
     have HS13 := Lib.hid (show Sat B D2 W12 (blk b1 #[.slice ha hs.length hcp, v10] tRq :: intsP (.slice va8 (out ++ [e.o]).length vc8) (out ++ [e.o]) :: blk w6.heap.size #[.int .i64 e.o] 3 :: blk bz (cellsC e).toArray tRe :: blk b2 nQ tRq :: l) by
      show Sat B D2 W12 (_ :: ownS 3 1 (.slice va8 (out ++ [e.o]).length vc8) (out ++ [e.o]).length ((out ++ [e.o]).map (Value.int .i64)) :: _)
      rw [List.length_append, List.map_append]
      exact hs13)
     have HQ2 := Lib.hid (show QueD D2 (.agg #[.slice ha hs.length hcp, v10]) ⟨Q1.held, Q1.waits.eraseIdx j⟩ from ⟨_, _, hs, ws.eraseIdx j, rfl, HH.out.mono hle2, hE2, HHQ.out, by rw [← HWQ.out]; simp only [List.eraseIdx_eq_take_drop_succ, List.map_append, List.map_take, List.map_drop]⟩)
     have HLE2 := Lib.hid hle2
     have HLQ := Lib.hid (loadQ2 (blk_range (HS13.out.blk 0 rfl)))
     have HLE0 := Lib.hid (loadRe (blk_range (HS13.out.blk 3 rfl)))
     have HGV := Lib.hid (rqGive_ok e HQ2.out ⟨HEO.out.1.mono hle2, HEO.out.2⟩ (by show Q1.held.length ≤ 100000; omega) HS13.out)
     clear hs12 hs13 hE2 hle2 HS13
     go_upto_region 13 with (first | (refine wpList_ld rfl _ _ rfl _ _ rfl _ HLQ.out ?_) | (refine wpList_ld rfl _ _ rfl _ _ rfl _ HLE0.out ?_) | (go_at_call 149; refine HGV.out.mono ?_; rintro e16 w16 ⟨v16, D16, rfl, hle16, hq16, hs16⟩; have HQ16 := Lib.hid hq16; obtain ⟨hv2, wv2, hs2, ws2, rfl, hH2, hW2, _, hwq2⟩ := hq16; obtain ⟨wa2, wc2, rfl⟩ := hW2.1.shape; have HWQ2 := Lib.hid hwq2; have HO2 := Lib.hid (show ∀ u ∈ [hv2, .slice wa2 ws2.length wc2], u.oneCell' = true from fun u hu => by simp at hu; rcases hu with rfl | rfl; exact hH2.1.oneV; rfl); have HLE16 := Lib.hid hle16; have HS16 := Lib.hid hs16; clear hs16 hle16 hH2 hW2 hwq2 HGV HLQ HLE0) | (refine wpList_store_whole rfl _ _ _ rfl tRq b1 rfl [hv2, .slice wa2 ws2.length wc2] rfl _ HS16.out (by kernel_rfl) rfl HO2.out ?_; intro w17 hs17; have HS17 := Lib.hid hs17; clear hs17 HS16))
     have hmv := moved_some (R := RC) HFF.out HX.out
     have hlen1 := giveL_len (R := RC) Q1.held (entC e)
     have hlen2 : (Q1.waits.eraseIdx j).length + 1 = ws.length := by rw [List.length_eraseIdx_of_lt (by omega)]; omega
     have hw2 : ws2.length = (Q1.waits.eraseIdx j).length := by rw [← List.length_map (f := entC), HWQ2.out]; rfl
     have HWA2 := Lib.hid (waits_at (HS17.out.blk 0 rfl))
     have hw0 : IntKind.i64.wrap (-1 + 1) = ((0 : Nat) : Int) := by rw [IntWalk.i64_in _ (by omega)]; rfl
     go_wp2_with fail
     go_roundw
     case rel =>
      refine ⟨0, giveQ RC ⟨Q1.held, Q1.waits.eraseIdx j⟩ (entC e), D16, hv2, .slice wa2 ws2.length wc2, out ++ [e.o], va8, vc8, by first | rfl | exact congrArg (Value.int .i64) hw0, by rw [List.length_append]; rfl, (HLE.out.trans HLE2.out).trans HLE16.out, HQ16.out, Nat.zero_le _, fun i hi => by omega, ?_, ?_, ?_, ?_⟩
      ·rw [HMV.out, hmv]; simp
      ·show (giveL RC Q1.held (entC e)).length + (Q1.waits.eraseIdx j).length ≤ 1000
       omega
      ·show (out ++ [e.o]).length + (Q1.waits.eraseIdx j).length ≤ 1000
       rw [List.length_append, List.length_singleton]
       omega
      ·exact ((HS17.out.front 2 rfl).drop.front 2 rfl).drop.swap
     case measure =>
      rw [HWA.out, HWA2.out]
      simp [intOf]
      omega
    ·refine wp_region_canon [(0, false, 6), (1, false, 6), (2, false, 6), (3, false, 6), (4, false, 6), (5, false, 6), (6, true, 0), (7, false, 16), (8, false, 16), (9, false, 16), (10, false, 16), (11, false, 16), (12, false, 16), (13, false, 16), (14, false, 16), (15, false, 16), (16, true, 0), (17, false, 999)] (by kernel_rfl) (by kernel_rfl) ?_
     iterate 6 (refine wpCan_read rfl rfl (fun K hK => ?_); (first | ((refine still_ld _ _ rfl _ _ rfl _ HLZ.out ?_); go_simp) | go_simp); refine hK _ ?_; clear hK K)
     refine wpCan_eff rfl ?_
     refine wpList_do rfl (fun K hK => ?_)
     go_simp
     refine HM1.out.mono ?_
     rintro e5 w5 ⟨rfl, hk5⟩
     have hs5 := HS4.out.drew.kept hk5
     clear hk5 HM1 HS4 HLZ q0 q1 qf x0
     obtain ⟨q0, q1, qf⟩ := cells2 (hs5.blk 2 rfl)
     have x0 := (boxC (hs5.blk 0 rfl)).1
     have HLZ := Lib.hid (loadCl (w := w5) (boxCl (hs5.blk 0 rfl)))
     have HS5 := Lib.hid hs5
     clear hs5
     refine hK _ _ ?_
     clear hK K
     refine wpList_nil ?_
     refine And.intro ?_ ?_
     ·go_simp
     iterate 1 (refine wpCan_read rfl rfl (fun K hK => ?_); (first | ((refine still_ld _ _ rfl _ _ rfl _ HLZ.out ?_); go_simp) | go_simp); refine hK _ ?_; clear hK K)
     iterate 8 (first | (refine wpCan_no rfl rfl ?_; simp only [Act.put, List.setIfInBounds_toArray, List.set_cons_succ, List.set_cons_zero, List.getElem_toArray, List.getElem_cons_succ, List.getElem_cons_zero]) | (refine wpCan_yes rfl rfl (fun K hK => ?_); (first | ((refine still_ld _ _ rfl _ _ rfl _ HLZ.out ?_); go_simp) | go_simp); refine hK _ ?_; clear hK K))
     refine wpCan_eff rfl ?_
     refine wpList_do rfl (fun K hK => ?_)
     go_simp
     refine (HM2.out _ HS5.out).mono ?_
     rintro e6 w6 ⟨rfl, hk6⟩
     have HS6 := Lib.hid ((HS5.out.kept hk6).drop)
     clear hk6 HM2 HS5 HLZ q0 q1 qf x0 hb3 hmap
     refine hK _ _ ?_
     clear hK K
     refine wpList_nil ?_
     refine And.intro ?_ ?_
     ·go_simp
     iterate 1 (refine wpCan_read rfl rfl (fun K hK => ?_); (first | ((refine still_ld _ _ rfl _ _ rfl _ HLZ.out ?_); go_simp) | go_simp); refine hK _ ?_; clear hK K)
     refine wpCan_nil ?_
     have HC2 := Lib.hid (show canAt RC Q1 j = false by rw [HCE.out]; rfl)
     have HWA2 := Lib.hid (waits_at (HS6.out.blk 1 rfl))
     go_wp2_with fail
     go_roundw
     case rel => exact ⟨j + 1, Q1, D1, .slice ha hs.length hcp, .slice (some ⟨g, og, none⟩) ws.length wc, out, oa, oc, by go_num, rfl, HLE.out, HQ1.out, by omega, fun i hi => by rcases Nat.lt_succ_iff_lt_or_eq.1 hi with h | rfl; exact HCAN.out i h; exact HC2.out, HMV.out, hb1, hb2, HS6.out⟩
     case measure => rw [HWA.out, HWA2.out]; simp [intOf]; omega
   ·refine wp_region_canon [(0, false, 6), (1, false, 6), (2, false, 6), (3, false, 6), (4, false, 6), (5, false, 6), (6, true, 0), (7, false, 16), (8, false, 16), (9, false, 16), (10, false, 16), (11, false, 16), (12, false, 16), (13, false, 16), (14, false, 16), (15, false, 16), (16, true, 0), (17, false, 999)] (by kernel_rfl) (by kernel_rfl) ?_
    iterate 6 (refine wpCan_read rfl rfl (fun K hK => ?_); (first | ((refine still_ld _ _ rfl _ _ rfl _ HLZ.out ?_); go_simp) | go_simp); refine hK _ ?_; clear hK K)
    refine wpCan_eff rfl ?_
    refine wpList_do rfl (fun K hK => ?_)
    go_simp
    refine HM1.out.mono ?_
    rintro e5 w5 ⟨rfl, hk5⟩
    have hs5 := HS4.out.drew.kept hk5
    clear hk5 HM1 HS4 HLZ q0 q1 qf x0
    obtain ⟨q0, q1, qf⟩ := cells2 (hs5.blk 2 rfl)
    have x0 := (boxC (hs5.blk 0 rfl)).1
    have HLZ := Lib.hid (loadCl (w := w5) (boxCl (hs5.blk 0 rfl)))
    have HS5 := Lib.hid hs5
    clear hs5
    refine hK _ _ ?_
    clear hK K
    refine wpList_nil ?_
    refine And.intro ?_ ?_
    ·go_simp
    iterate 1 (refine wpCan_read rfl rfl (fun K hK => ?_); (first | ((refine still_ld _ _ rfl _ _ rfl _ HLZ.out ?_); go_simp) | go_simp); refine hK _ ?_; clear hK K)
    iterate 8 (first | (refine wpCan_no rfl rfl ?_; simp only [Act.put, List.setIfInBounds_toArray, List.set_cons_succ, List.set_cons_zero, List.getElem_toArray, List.getElem_cons_succ, List.getElem_cons_zero]) | (refine wpCan_yes rfl rfl (fun K hK => ?_); (first | ((refine still_ld _ _ rfl _ _ rfl _ HLZ.out ?_); go_simp) | go_simp); refine hK _ ?_; clear hK K))
    refine wpCan_eff rfl ?_
    refine wpList_not rfl ?_
    simp only [Act.put, List.setIfInBounds_toArray, List.set_cons_succ, List.set_cons_zero]
    refine wpList_nil ?_
    have HS6 := Lib.hid HS5.out.drop
    clear HM2 HS5 HLZ q0 q1 qf x0 hb3 hmap
    refine And.intro ?_ ?_
    ·go_simp
    iterate 1 (refine wpCan_read rfl rfl (fun K hK => ?_); (first | ((refine still_ld _ _ rfl _ _ rfl _ HLZ.out ?_); go_simp) | go_simp); refine hK _ ?_; clear hK K)
    refine wpCan_nil ?_
    have HC2 := Lib.hid (show canAt RC Q1 j = false by rw [HCE.out]; rfl)
    have HWA2 := Lib.hid (waits_at (HS6.out.blk 1 rfl))
    go_wp2_with fail
    go_roundw
    case rel => exact ⟨j + 1, Q1, D1, .slice ha hs.length hcp, .slice (some ⟨g, og, none⟩) ws.length wc, out, oa, oc, by go_num, rfl, HLE.out, HQ1.out, by omega, fun i hi => by rcases Nat.lt_succ_iff_lt_or_eq.1 hi with h | rfl; exact HCAN.out i h; exact HC2.out, HMV.out, hb1, hb2, HS6.out⟩
    case measure => rw [HWA.out, HWA2.out]; simp [intOf]; omega
  ·have hji : ¬ ((j : Int) < (ws.length : Int)) := by omega
   have HNO := Lib.hid (moved_none (R := RC) (first_no (q := Q1) (fun i hi => HCAN.out i (by omega))))
   have HLQ := Lib.hid (loadQ2 (blk_range (HS2.out.blk 1 rfl)))
   have HO2 := Lib.hid (show ∀ u ∈ [Value.slice ha hs.length hcp, .slice wa ws.length wc], u.oneCell' = true from fun u hu => by simp at hu; rcases hu with rfl | rfl <;> rfl)
   have HS3 := Lib.hid (HS2.out.front 2 rfl)
   clear HS2
   go_wp2_with (first | (refine wpList_ld rfl _ _ rfl _ _ rfl _ HLQ.out ?_) | (refine wpList_store_whole rfl _ _ _ rfl tRq b2 rfl [.slice ha hs.length hcp, .slice wa ws.length wc] rfl nQ HS3.out (by kernel_rfl) rfl HO2.out ?_; intro w20 hs20; have HS20 := Lib.hid hs20; clear hs20 HS3 HLQ))
   refine bodyPost_ret (results_c2 rfl _ _ rfl (loadQ2 (blk_range (HS20.out.blk 0 rfl)))) rfl ?_
   rw [HMV.out, HNO.out, List.append_nil]
   exact ⟨_, _, D1, rfl, HLE.out, HQ1.out, (HS20.out.drop.swap).drop⟩
end Go.Proofs.YtgljdkjepdknnaaGreatDoor
