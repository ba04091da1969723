/- Joined texts: Whether one claim covers another one (claim.Covers). (printed by genconf.py) Whether something is free; how many wait for more. (printed by genq.py) Giving. (printed by genq.py) -/
import Derived.Test.YtgljdkjepdknnaaGreatDoorMR12
import Derived.Test.YtgljdkjepdknnaaGreatDoorMR8
/- Whether one claim covers another one (claim.Covers). (printed by genconf.py) -/
namespace Go.Proofs.YtgljdkjepdknnaaGreatDoor
open Go.ChangeShapes Go.WideShapes Go.ChangeAt Go.RowKit
set_option maxRecDepth 100000
set_option linter.unusedSimpArgs false

set_option maxHeartbeats 2000000 in
theorem cov1F {w : World} {b : Nat} {x : ClmE} (hb : w.heap[b]? = some (.cells x.cells.toArray tCl (0, 0))) (hx : RowsRd w (.slice x.ia x.il x.ic) x.imgs) (r : List Val) :
  PredR 119 #[.pointer (some ⟨b, 0, none⟩)] w r (imgIn x.imgs r) := by
 refine ⟨enters_of Tryz.func119 (by kernel_rfl) rfl, fun W rv hW hr => ?_⟩
 have y6 := (boxClm2 (kept_blk hW hb)).2
 have HC := Lib.hid (in_R (hx.kept hW) hr)
 obtain ⟨_, hml, ra, rc, rfl, _⟩ := id hr
 clear hb hx hW hr hml
 show Calls Tryz.prog 119 #[.slice ra r.length rc, .pointer (some ⟨b, 0, none⟩)] W _
 generalize imgIn x.imgs r = rr at *
 generalize r.length = rl at *
 go_enter Tryz.func119, Tryz.ntmps119
 go_wp2_with (go_at_call 120; refine HC.out.mono ?_; rintro e1 w1 ⟨rfl, hk1⟩; have HK1 := Lib.hid hk1; clear hk1 HC y6)
 go_ret
 exact ⟨rfl, HK1.out⟩
set_option maxHeartbeats 4000000 in
theorem cov_C {w : World} {x y : ClmE} (he : Env w) (hx : RdCl w x) (hy : RdCl w y) : Calls Tryz.prog 76 #[.agg x.cells.toArray, .agg y.cells.toArray] w fun r w' => r = .returned (.bool (RC.cov x.c y.c)) ∧ Kept (fun _ => False) w w' := by
 obtain ⟨W1, hW1, hk1, hb1, hb2⟩ := alloc2p w x.cells.toArray y.cells.toArray tCl tCl
 have HLX := Lib.hid (loadCl (blk_range hb1))
 have HLY := Lib.hid (loadCl (blk_range hb2))
 have HW1 := Lib.hid hW1
 have HK1 := Lib.hid hk1
 have HB1 := Lib.hid hb1
 have HB2 := Lib.hid hb2
 have HX := Lib.hid (hx.kept hk1)
 have HY := Lib.hid (hy.kept hk1)
 have HE := Lib.hid (he.kept hk1)
 have HP := Lib.hid (show RC.cov x.c y.c = (RC.same x.c y.c && coversM x.mode y.mode && y.imgs.all (fun r => imgIn x.imgs r)) from rfl)
 have HSS := Lib.hid (same_C (hx.kept hk1) (hy.kept hk1))
 rw [HP.out]
 clear hW1 hk1 hb1 hb2 hx hy he HP
 generalize RC.same x.c y.c = rs at *
 cases rs
 ·rw [Bool.false_and, Bool.false_and]
  go_enter Tryz.func76, Tryz.ntmps76
  go_upto_region 1 with fail
  rw [← HW1.out]
  clear HW1
  generalize w.heap.size + 1 = b2 at HB2 HLY ⊢
  generalize w.heap.size = b1 at HB1 HLX ⊢
  go_wp2_with (first | (refine wpList_ld rfl _ _ rfl _ _ rfl _ HLX.out ?_) | (refine wpList_ld rfl _ _ rfl _ _ rfl _ HLY.out ?_) | (go_at_call 74; refine HSS.out.mono ?_; rintro r3 w3 ⟨rfl, hk3⟩; have HK3 := Lib.hid (HK1.out.trans hk3 (fun _ h => h.elim)); clear hk3 HSS HLX HLY))
  go_ret
  exact ⟨rfl, HK3.out⟩
 ·cases hc : coversM x.mode y.mode
  ·rw [Bool.true_and]
   have HCM := Lib.hid hc
   clear hc
   rw [Bool.false_and]
   go_enter Tryz.func76, Tryz.ntmps76
   go_upto_region 1 with fail
   rw [← HW1.out]
   clear HW1
   generalize w.heap.size + 1 = b2 at HB2 HLY ⊢
   generalize w.heap.size = b1 at HB1 HLX ⊢
   go_wp2_with (first | (refine wpList_ld rfl _ _ rfl _ _ rfl _ HLX.out ?_) | (refine wpList_ld rfl _ _ rfl _ _ rfl _ HLY.out ?_) | (go_at_call 74; refine HSS.out.mono ?_; rintro r3 w3 ⟨rfl, hk3⟩; have HK3 := Lib.hid (HK1.out.trans hk3 (fun _ h => h.elim)); have HCV := Lib.hid (Covers_is HCM.out w3 (HE.out.kept hk3).2); have x2 := (boxClm2 (kept_blk hk3 HB1.out)).1; have y2 := (boxClm2 (kept_blk hk3 HB2.out)).1; have HK13 := Lib.hid hk3; clear hk3 HSS HLX HLY) | (go_at_call 117; refine HCV.out.mono ?_; rintro r4 w4 ⟨rfl, hk4⟩; have HK4 := Lib.hid (HK3.out.trans hk4 (fun _ h => h.elim)); clear hk4 HCV x2 y2))
   go_ret
   exact ⟨rfl, HK4.out⟩
  ·rw [Bool.true_and]
   have HCM := Lib.hid hc
   clear hc
   rw [Bool.true_and]
   go_enter Tryz.func76, Tryz.ntmps76
   go_upto_region 1 with fail
   rw [← HW1.out]
   clear HW1
   generalize w.heap.size + 1 = b2 at HB2 HLY ⊢
   generalize w.heap.size = b1 at HB1 HLX ⊢
   go_wp2_with (first | (refine wpList_ld rfl _ _ rfl _ _ rfl _ HLX.out ?_) | (refine wpList_ld rfl _ _ rfl _ _ rfl _ HLY.out ?_) | (go_at_call 74; refine HSS.out.mono ?_; rintro r3 w3 ⟨rfl, hk3⟩; have HK3 := Lib.hid (HK1.out.trans hk3 (fun _ h => h.elim)); have HCV := Lib.hid (Covers_is HCM.out w3 (HE.out.kept hk3).2); have x2 := (boxClm2 (kept_blk hk3 HB1.out)).1; have y2 := (boxClm2 (kept_blk hk3 HB2.out)).1; have HK13 := Lib.hid hk3; clear hk3 HSS HLX HLY) | (go_at_call 117; refine HCV.out.mono ?_; rintro r4 w4 ⟨rfl, hk4⟩; have HK4 := Lib.hid (HK3.out.trans hk4 (fun _ h => h.elim)); have hk14 := HK13.out.trans hk4 (fun _ h => h.elim); have HALL := Lib.hid (all_R (fun r => imgIn x.imgs r) (HY.out.1.kept hk14) (fun r _ => cov1F (kept_blk hk14 HB1.out) (HX.out.1.kept hk14) r)); clear x2 y2; have y6 := (boxClm2 (kept_blk hk14 HB2.out)).2; clear hk4 hk14 HCV) | (go_at_call 118; refine HALL.out.mono ?_; rintro r5 w5 ⟨rfl, hk5⟩; have HK5 := Lib.hid (HK4.out.trans hk5 (fun _ h => h.elim)); clear hk5 HALL y6))
   go_ret
   exact ⟨rfl, HK5.out⟩
end Go.Proofs.YtgljdkjepdknnaaGreatDoor

/- Whether something is free; how many wait for more. (printed by genq.py) -/
namespace Go.Proofs.YtgljdkjepdknnaaGreatDoor
open Go.ChangeShapes Go.WideShapes Go.ChangeAt Go.RowKit
set_option maxRecDepth 100000
set_option linter.unusedSimpArgs false


set_option maxHeartbeats 2000000 in
theorem freeF_C {w : World} {be b2 q : Nat} {e : EntE} {hv wv : Value} (h1 : w.heap[be]? = some (.cells (cellsC e).toArray tEnC (0, 0))) (h2 : w.heap[b2]? = some (.cells #[.pointer (some ⟨q, 0, none⟩)] 74 (0, 0)))
  (hq : w.heap[q]? = some (.cells #[.func (.func 74) #[] #[], .func (.func 75) #[] #[], .func (.func 76) #[] #[], .func (.func 77) #[] #[], hv, wv] tQC (0, 0))) (he : Env w) (x : EntE)
  (hx : RdCl w x.x) (hc : RdCl w e.x)
  : PredF 168 #[.pointer (some ⟨be, 0, none⟩), .pointer (some ⟨b2, 0, none⟩)] w (cellsC x) (meetsE RC e.o (entC e).c (entC x)) := by
 refine ⟨enters_of Tryz.func168 (by kernel_rfl) rfl, fun W hW => ?_⟩
 obtain ⟨W1, hW1, hk1, hbx, hb1⟩ := two_blocks (kept_blk hW h1) (cellsC x).toArray tEnC
 have hk2 := hW.trans hk1 (fun _ h => h.elim)
 have HW1 := Lib.hid hW1
 have HK1 := Lib.hid hk1
 have HBX := Lib.hid hbx
 have HE := Lib.hid (he.kept hk2)
 obtain ⟨y0, _⟩ := boxC hb1
 have HL3 := Lib.hid (loadCl (w := W1.drew) (boxCl (w := W1.drew) hb1))
 have HX := Lib.hid (hx.kept hk2)
 have HC := Lib.hid (hc.kept hk2)
 obtain ⟨d0, _⟩ := cells1 (blk_kept hk2 h2)
 obtain ⟨q0, q1, q2, q3, q4, q5, _⟩ := cells6 (blk_kept hk2 hq)
 clear h1 h2 hq hW hW1 hk1 hk2 hbx hb1 he
 show Calls Tryz.prog 168 #[.agg (cellsC x).toArray, .pointer (some ⟨be, 0, none⟩), .pointer (some ⟨b2, 0, none⟩)] W _
 by_cases ho : x.o = e.o
 ·have HO := Lib.hid (show meetsE RC e.o (entC e).c (entC x) = false by unfold meetsE; simp [ho])
  go_enter Tryz.func168, Tryz.ntmps168
  go_upto_region 1 with fail
  rw [← HW1.out]
  clear HW1
  generalize W.heap.size = bx at HBX ⊢
  have x0 := (boxC HBX.out).1
  rw [ho] at x0
  clear ho
  refine wp_region_canon [(0, false, 15), (1, false, 15), (2, false, 15), (3, false, 15), (4, false, 15), (5, false, 15), (6, false, 15), (7, false, 15), (8, false, 15), (9, false, 15), (10, false, 15), (11, false, 15), (12, false, 15), (13, false, 15), (14, false, 15), (15, true, 0), (16, false, 999), (17, false, 999)] (by kernel_rfl) (by kernel_rfl) ?_
  iterate 6 (refine wpCan_read rfl rfl (fun K hK => ?_); go_simp; refine hK _ ?_; clear hK K)
  iterate 9 (first | (refine wpCan_no rfl rfl ?_; simp only [Act.put, List.setIfInBounds_toArray, List.set_cons_succ, List.set_cons_zero, List.getElem_toArray, List.getElem_cons_succ, List.getElem_cons_zero]) | (refine wpCan_yes rfl rfl (fun K hK => ?_); go_simp; refine hK _ ?_; clear hK K))
  refine wpCan_eff rfl ?_
  refine wpList_not rfl ?_
  simp only [Act.put, List.setIfInBounds_toArray, List.set_cons_succ, List.set_cons_zero]
  refine wpList_nil ?_
  refine And.intro ?_ ?_
  ·go_simp
  iterate 2 (refine wpCan_read rfl rfl (fun K hK => ?_); go_simp; refine hK _ ?_; clear hK K)
  refine wpCan_nil ?_
  go_wp2_with fail
  go_ret
  exact ⟨by rw [HO.out]; rfl, HK1.out.drew⟩
 ·have HO := Lib.hid (show meetsE RC e.o (entC e).c (entC x) = RC.conf (entC x).c (entC e).c by unfold meetsE; simp [ho])
  have hne : (x.o == e.o) = false := by simpa using ho
  have hne2 : (x.o != e.o) = true := by simpa using ho
  rw [HO.out]
  go_enter Tryz.func168, Tryz.ntmps168
  go_upto_region 1 with fail
  rw [← HW1.out]
  clear HW1 HO
  generalize W.heap.size = bx at HBX ⊢
  obtain ⟨x0, _⟩ := boxC HBX.out
  have HL1 := Lib.hid (loadCl (w := W1.drew) (boxCl (w := W1.drew) HBX.out))
  clear ho
  refine wp_region_canon [(0, false, 15), (1, false, 15), (2, false, 15), (3, false, 15), (4, false, 15), (5, false, 15), (6, false, 15), (7, false, 15), (8, false, 15), (9, false, 15), (10, false, 15), (11, false, 15), (12, false, 15), (13, false, 15), (14, false, 15), (15, true, 0), (16, false, 999), (17, false, 999)] (by kernel_rfl) (by kernel_rfl) ?_
  iterate 6 (refine wpCan_read rfl rfl (fun K hK => ?_); (first | ((refine still_ld _ _ rfl _ _ rfl _ HL1.out ?_); go_simp) | ((refine still_ld _ _ rfl _ _ rfl _ HL3.out ?_); go_simp) | go_simp); refine hK _ ?_; clear hK K)
  iterate 9 (first | (refine wpCan_no rfl rfl ?_; simp only [Act.put, List.setIfInBounds_toArray, List.set_cons_succ, List.set_cons_zero, List.getElem_toArray, List.getElem_cons_succ, List.getElem_cons_zero]) | (refine wpCan_yes rfl rfl (fun K hK => ?_); (first | ((refine still_ld _ _ rfl _ _ rfl _ HL1.out ?_); go_simp) | ((refine still_ld _ _ rfl _ _ rfl _ HL3.out ?_); go_simp) | go_simp); refine hK _ ?_; clear hK K))
  refine wpCan_eff rfl ?_
  refine wpList_do rfl (fun K hK => ?_)
  go_simp
  refine (conf_C HE.out.drew HX.out.drew HC.out.drew).mono ?_
  rintro e2 w2 ⟨rfl, hk⟩
  have HK2 := Lib.hid (HK1.out.drew.trans hk (fun _ h => h.elim))
  clear hk
  refine hK _ _ ?_
  clear hK K
  refine wpList_nil ?_
  refine And.intro ?_ ?_
  ·go_simp
  iterate 2 (refine wpCan_read rfl rfl (fun K hK => ?_); (first | ((refine still_ld _ _ rfl _ _ rfl _ HL1.out ?_); go_simp) | ((refine still_ld _ _ rfl _ _ rfl _ HL3.out ?_); go_simp) | go_simp); refine hK _ ?_; clear hK K)
  refine wpCan_nil ?_
  go_wp2_with fail
  go_ret
  exact ⟨rfl, HK2.out⟩
set_option maxHeartbeats 2000000 in
theorem free_C {B w : World} {D D' : PH} {l : List HP} {q : Nat} {Q : Qm Clm} {av : Value} {zs : List (EntE)} (e : EntE) (he : Env w)
  (hD : PH.le D' D) (hc : ClOk D e.x) (ha : ∀ x ∈ zs, ClOk D x.x)
  (hrd : Rd w 18 av zs.length (zs.flatMap cellsC)) (h : Sat B D w (queC D' q Q :: l)) :
  Calls Tryz.prog 135 #[.pointer (some ⟨q, 0, none⟩), .agg (cellsC e).toArray, av] w fun r w' => r = .returned (.bool (freeE RC Q e.o (entC e).c (zs.map entC))) ∧ Kept (fun _ => False) w w' := by
 obtain ⟨hv, wv, hs, ws, hr1, hr2, h1⟩ := queOpen_C h
 obtain ⟨W1, hW1, hk1, hb1, hb2⟩ := alloc2 w #[.pointer (some ⟨q, 0, none⟩)] (cellsC e).toArray 74 tEnC
 have hq1 := blk_kept hk1 (h1.blk 0 rfl)
 have HI := Lib.hid (containsFunc_C (fun x => meetsE RC e.o (entC e).c (entC x)) ((h1.own 1 rfl).rd.kept hk1 (fun _ _ h => h)) (fun x hx => freeF_C hb2 hb1 hq1 (he.kept hk1) x
  (((hr1.2 x hx).mono hD).rd (h1.kept hk1)) (hc.rd (h1.kept hk1))
  ))
 have HJ := Lib.hid (show ∀ W2, Kept (fun _ => False) W1 W2 → _ from fun W2 hk2 => containsFunc_C (w := W2) (v := av) (fun x => meetsE RC e.o (entC e).c (entC x)) ((hrd.kept hk1 (fun _ _ h => h)).kept hk2 (fun _ _ h => h)) (fun x hx => (freeF_C hb2 hb1 hq1 (he.kept hk1) x
  ((ha x hx).rd (h1.kept hk1)) (hc.rd (h1.kept hk1))
  ).kept hk2))
 rw [any_map_C (meetsE RC e.o (entC e).c), hr1.1] at HI
 have HA := Lib.hid (any_map_C (meetsE RC e.o (entC e).c) zs)
 rw [HA.out] at HJ
 have HR := Lib.hid (show freeE RC Q e.o (entC e).c (zs.map entC) = (!(Q.held.any (meetsE RC e.o (entC e).c)) && !((zs.map entC).any (meetsE RC e.o (entC e).c))) from rfl)
 rw [HR.out]
 have HW1 := Lib.hid hW1
 have HK1 := Lib.hid hk1
 have HQ1 := Lib.hid hq1
 obtain ⟨d0, _⟩ := cells1 hb1
 obtain ⟨_, _, aa, ac, rfl, _⟩ := id hrd
 clear h h1 hr1 hr2 hW1 hk1 hb1 hb2 hq1 HA HR hrd he
 generalize Q.held.any (meetsE RC e.o (entC e).c) = r1 at *
 generalize (zs.map entC).any (meetsE RC e.o (entC e).c) = r2 at *
 cases r1
 all_goals
  go_enter Tryz.func135, Tryz.ntmps135
  go_upto_region 2 with fail
  rw [← HW1.out]
  clear HW1
  generalize w.heap.size + 1 = bx2 at HI HJ ⊢
  generalize w.heap.size = bx1 at HI HJ d0 ⊢
  obtain ⟨c0, c1, c2, c3, c4, c5, cf⟩ := cells6 HQ1.out
  go_wp2_with (go_at_call 169; first | (refine HI.out.mono ?_; rintro e1 w1 ⟨rfl, hk2⟩; have HK2 := Lib.hid hk2; clear hk2 HI c0 c1 c2 c3 c4 c5 cf d0) | (refine (HJ.out _ HK2.out).mono ?_; rintro e3 w3 ⟨rfl, hk3⟩; replace HK2 := Lib.hid (HK2.out.trans hk3 (fun _ h => h.elim)); clear hk3 HJ))
  go_ret
  exact ⟨rfl, HK1.out.trans HK2.out (fun _ h => h.elim)⟩
set_option maxHeartbeats 2000000 in
theorem mores_C {B w : World} {D D' : PH} {l : List HP} {q : Nat} {Q : Qm Clm} (h : Sat B D w (queC D' q Q :: l)) :
  Calls Tryz.prog 134 #[.pointer (some ⟨q, 0, none⟩)] w fun e w' => e = .returned (.int .i64 (moresN Q.waits : Nat)) ∧ w = w' := by
 obtain ⟨hv, wv, hs, ws, hr1, hr2, h1⟩ := queOpen_C h
 obtain ⟨_, hml, wa, wc, rfl, hnc, hcm, _⟩ := id (h1.own 2 rfl).rd
 unfold maxLen at hml hcm
 have HRD := Lib.hid (h1.own 2 rfl).rd
 obtain ⟨c0, c1, c2, c3, c4, c5, cf⟩ := cells6 (h1.blk 0 rfl)
 have HW := Lib.hid hr2.1
 clear h h1 hr1 hr2
 have hlm : moresN Q.waits ≤ ws.length := by rw [← List.length_map (f := entC), HW.out]; exact moresN_le _
 obtain ⟨N, hN⟩ : ∃ N, ws.length = N := ⟨_, rfl⟩
 have HN := Lib.hid hN
 rw [hN] at HRD hml hnc hlm c5
 clear hN
 go_enter Tryz.func134, Tryz.ntmps134
 go_wp2_with fail
 go_loop [3] (fun i => ∃ k : Nat, i = .int .i64 k ∧ k ≤ moresN Q.waits) (fun i => N - (intOf i).toNat)
 case atStart => exact ⟨0, rfl, by omega⟩
 case round =>
  obtain ⟨k, rfl, hk⟩ := hrel
  by_cases hlt : k < N
  ·have hi : (k : Int) < (N : Int) := by omega
   obtain ⟨x, hx⟩ : ∃ x, ws[k]? = some x := ⟨ws[k]'(by rw [HN.out]; exact hlt), List.getElem?_eq_getElem _⟩
   obtain ⟨g, o, rfl, hrng⟩ := elem_range lenC HRD.out hx HN.out
   have hx2 : Q.waits[k]? = some (entC x) := by rw [← HW.out, List.getElem?_map, hx]; rfl
   have x2 := moreC hrng
   by_cases hkm : k < moresN Q.waits
   ·have hm := Lib.hid (show x.more = true from more_lt hkm hx2)
    rw [hm.out] at x2
    clear hx hrng hx2 hm
    go_wp2_with fail
    go_round
    case rel => exact ⟨k + 1, by go_num, by omega⟩
    case measure => simp [intOf]; omega
   ·have hke : k = moresN Q.waits := by omega
    have hm := Lib.hid (show x.more = false from more_ge hke hx2)
    have HKE := Lib.hid hke
    rw [hm.out] at x2
    clear hx hrng hx2 hm hke
    go_wp2_with fail
    go_ret
    exact ⟨by rw [← HKE.out]; rfl, rfl⟩
  ·have hi : ¬ ((k : Int) < (N : Int)) := by omega
   have HKE := Lib.hid (show k = moresN Q.waits by omega)
   go_wp2_with fail
   go_ret
   exact ⟨by rw [← HKE.out]; rfl, rfl⟩
end Go.Proofs.YtgljdkjepdknnaaGreatDoor

/- Giving. (printed by genq.py) -/
namespace Go.Proofs.YtgljdkjepdknnaaGreatDoor
open Go.ChangeShapes Go.WideShapes Go.ChangeAt Go.RowKit
set_option maxRecDepth 100000
set_option linter.unusedSimpArgs false


set_option maxHeartbeats 4000000 in
theorem give_C {B w : World} {D D' : PH} {l : List HP} {q : Nat} {Q : Qm Clm} (e : EntE) (hlen : Q.held.length ≤ 100000)
  (hD : PH.le D' D) (hc : OkC D' e)
  (h : Sat B D w (queC D' q Q :: l)) :
  Calls Tryz.prog 136 #[.pointer (some ⟨q, 0, none⟩), .agg (cellsC e).toArray] w fun r w' => r = .returned (.tuple #[]) ∧ Sat B D w' (queC D' q (giveQ RC Q (entC e)) :: l) := by
 obtain ⟨i0, hi, hz0, hz1, hz2⟩ := info_parts infoC
 have HI := Lib.hid (And.intro hi (And.intro hz0 (And.intro hz1 hz2)))
 obtain ⟨W1, hW1, hs1⟩ := Sat.hide (h.alloc (cellsC (lessC e)).toArray tEnC)
 have HW1 := Lib.hid hW1
 have HS1 := Lib.hid hs1.swap
 clear h hs1 hW1 hi hz0 hz1 hz2
 go_enter Tryz.func136, Tryz.ntmps136
 go_upto_region 2 with fail
 simp only [less_arrC]
 rw [← HW1.out]
 clear HW1
 generalize w.heap.size = bx at HS1 ⊢
 obtain ⟨x0, _⟩ := boxC (HS1.out.blk 1 rfl)
 have HL := Lib.hid (loadCl (boxCl (HS1.out.blk 1 rfl)))
 go_upto_region 3 with (first | (refine wpList_ld rfl _ _ rfl _ _ rfl _ HL.out ?_) | (go_at_call 133; refine (own_C _ e.x hD (hc.mono hD) HS1.out).mono ?_; rintro e1 w1 ⟨rfl, hk1⟩; have HS2 := Lib.hid (HS1.out.kept hk1); clear hk1 HS1 x0 HL))
 rcases own_cases (R := RC) Q.held (entC e).o (entC e).c with ⟨k, ho, hk, hlt⟩ | ⟨ho, hk⟩
 ·have HG := Lib.hid (giveL_some ho)
  have HK := Lib.hid hk
  rw [show idxI (sameE RC e.o (cdC e.x)) Q.held = (k : Int) from hk]
  clear ho hk
  obtain ⟨hv, wv, hs, ws, hr1, hr2, h2⟩ := queOpen_C HS2.out
  obtain ⟨ha, hc2, rfl⟩ := (h2.front 1 rfl).own_shape
  have hll : hs.length = Q.held.length := by rw [← hr1.1, List.length_map]
  have hkn : k < hs.length := by omega
  obtain ⟨g, rfl⟩ : ∃ g, ha = some ⟨g, 0, none⟩ := by
   rcases (h2.own 1 rfl).2.2 with ⟨h1, h3⟩ | ⟨g, c2, cur, h1, _⟩
   ·omega
   ·cases h1; exact ⟨g, rfl⟩
  have HL := Lib.hid (loadC (blk_range (h2.drew.blk 3 rfl)))
  obtain ⟨c0, c1, c2, c3, c4, c5, cf⟩ := cells6 (h2.blk 0 rfl)
  have HR1 := Lib.hid hr1
  have HR2 := Lib.hid hr2
  have HS3 := Lib.hid (show Sat B D w1 (ownS tEnC 18 (.slice (some ⟨g, 0, none⟩) hs.length hc2) hs.length (hs.flatMap cellsC) :: qbC q (.slice (some ⟨g, 0, none⟩) hs.length hc2) wv :: entsC wv ws :: blk bx (cellsC (lessC e)).toArray tEnC :: l) from h2.front 1 rfl)
  generalize hN : hs.length = N at *
  have HN := Lib.hid hN
  clear h2 hr1 hr2 hN HS2 hll
  have hkN : (k : Int) < (N : Int) := by omega
  go_upto_region 4 with fail
  refine wp_region_canon [(0, false, 7), (1, false, 7), (2, false, 7), (3, false, 7), (4, false, 7), (5, false, 7), (6, false, 7), (7, true, 0)] (by kernel_rfl) (by kernel_rfl) ?_
  iterate 7 (refine wpCan_read rfl rfl (fun K hK => ?_); (first | ((refine still_ld _ _ rfl _ _ rfl _ HL.out ?_); go_simp) | go_simp); refine hK _ ?_; clear hK K)
  refine wpCan_eff rfl ?_
  refine wpList_store_elem lenC oneC rfl _ _ _ rfl tEnC g _ k N hc2 rfl (by omega) (lessC e) rfl hs HS3.out.drew (by kernel_rfl) hkn HN.out ?_
  intro w5 hs5
  have HS5 := Lib.hid hs5
  clear hs5 HS3 HL c0 c1 c2 c3 c4 c5 cf
  refine wpList_nil ?_
  refine And.intro ?_ ?_
  ·go_simp
  refine wpCan_nil ?_
  simp only [Act.put, List.setIfInBounds_toArray, List.set_cons_succ, List.set_cons_zero, List.getElem_toArray, List.getElem_cons_succ, List.getElem_cons_zero]
  go_wp2_with fail
  refine bodyPost_ret (results_none rfl _ _ _) rfl ?_
  refine ⟨rfl, ?_⟩
  have h6 := HS5.out.swap
  have h7 : Sat B D w5 (qbC q (.slice (some ⟨g, 0, none⟩) N hc2) wv :: entsC (.slice (some ⟨g, 0, none⟩) N hc2) (hs.set k (lessC e)) :: entsC wv ws :: blk bx (cellsC (lessC e)).toArray tEnC :: l) := by
   show Sat B D w5 (qbC q _ _ :: ownS tEnC 18 _ (hs.set k (lessC e)).length _ :: _)
   rw [List.length_set, HN.out]
   exact h6
  refine (queShut_C (Q := giveQ RC Q (entC e)) ⟨?_, ?_⟩ HR2.out h7).swap.drop
  ·show _ = giveL RC Q.held (entC e)
   rw [HG.out, List.map_set, HR1.out.1]
   all_goals rfl
  ·intro x hx
   rcases List.mem_or_eq_of_mem_set hx with hx | rfl
   ·exact HR1.out.2 x hx
   ·exact hc
 ·have HG := Lib.hid (giveL_none ho)
  have HK := Lib.hid hk
  rw [show idxI (sameE RC e.o (cdC e.x)) Q.held = -1 from hk]
  clear ho hk
  obtain ⟨hv, wv, hs, ws, hr1, hr2, h2⟩ := queOpen_C HS2.out
  obtain ⟨ha, hc2, rfl⟩ := (h2.front 1 rfl).own_shape
  have hll : hs.length = Q.held.length := by rw [← hr1.1, List.length_map]
  have HL := Lib.hid (loadC (blk_range (h2.drew.blk 3 rfl)))
  obtain ⟨c0, c1, c2, c3, c4, c5, cf⟩ := cells6 (h2.blk 0 rfl)
  have HR1 := Lib.hid hr1
  have HR2 := Lib.hid hr2
  have HS3 := Lib.hid (show Sat B D w1 (qbC q (.slice ha hs.length hc2) wv :: ownS tEnC 18 (.slice ha hs.length hc2) hs.length (hs.flatMap cellsC) :: entsC wv ws :: blk bx (cellsC (lessC e)).toArray tEnC :: l) from h2)
  generalize hN : hs.length = N at *
  have HN := Lib.hid hN
  have hNb : N ≤ 100000 := by omega
  clear h2 hr1 hr2 hN HS2 hll
  go_upto_region 5 with fail
  refine wp_region_canon [(0, false, 10), (1, false, 7), (2, false, 7), (3, false, 7), (4, false, 7), (5, false, 6), (6, true, 0), (7, true, 0), (8, false, 10), (9, false, 10), (10, true, 0)] (by kernel_rfl) (by kernel_rfl) ?_
  iterate 6 (refine wpCan_read rfl rfl (fun K hK => ?_); (first | ((refine still_ld _ _ rfl _ _ rfl _ HL.out ?_); go_simp) | go_simp); refine hK _ ?_; clear hK K)
  refine wpCan_eff rfl ?_
  refine wpList_build_one rfl _ _ rfl tEnC i0 _ (cellsC (lessC e)) rfl Tryz.underlying108 HI.out.1 HI.out.2.1 (HI.out.2.2.1.trans rfl) (by rw [lenC]; decide) (by rw [lenC]; decide) ?_
  refine wpList_nil ?_
  obtain ⟨W4, hW4, hs4⟩ := Sat.hide (HS3.out.drew.alloc (cellsC (lessC e)).toArray tEnC)
  rw [← hW4]
  clear hW4 HS3 HL c0 c1 c2 c3 c4 c5 cf
  generalize w1.drew.heap.size = bz at hs4 ⊢
  obtain ⟨c0, c1, c2, c3, c4, c5, cf⟩ := cells6 (hs4.blk 1 rfl)
  have HRD := Lib.hid (rd_block (size := 18) (n := 1) (hs4.blk 0 rfl) (by simp [lenC]) (by unfold maxLen; omega))
  have HS4 := Lib.hid (show Sat B D W4 (ownS tEnC 18 (.slice ha N hc2) N (hs.flatMap cellsC) :: blk bz (cellsC (lessC e)).toArray tEnC :: qbC q (.slice ha N hc2) wv :: entsC wv ws :: blk bx (cellsC (lessC e)).toArray tEnC :: l) from hs4.front 2 rfl)
  clear hs4
  refine And.intro ?_ ?_
  ·go_simp
  refine wpCan_eff rfl ?_
  refine wpList_append_Sat _ rfl _ _ 108 rfl tEnC i0 _ 18 200 Tryz.underlying108 HI.out.1 HI.out.2.1 HI.out.2.2.1 HI.out.2.2.2 rfl _ N _ rfl HS4.out _ 1 _ rfl HRD.out (by simpa using oneC (lessC e)) (by unfold maxLen; omega) (by omega) ?_
  intro v7 w7 hs7 h17
  refine wpList_nil ?_
  clear c0 c1 c2 c3 c4 c5 cf HS4 HRD
  obtain ⟨c0, c1, c2, c3, c4, c5, cf⟩ := cells6 (hs7.blk 2 rfl)
  have HS7 := Lib.hid (Sat.set5 (hs7.front 2 rfl) v7)
  clear hs7
  obtain ⟨va, vc, rfl⟩ : ∃ va vc, v7 = .slice va (N + 1) vc := (HS7.out.front 1 rfl).own_shape
  refine And.intro ?_ ?_
  ·go_simp
  iterate 2 (refine wpCan_read rfl rfl (fun K hK => ?_); (first | ((refine still_ld _ _ rfl _ _ rfl _ HL.out ?_); go_simp) | go_simp); refine hK _ ?_; clear hK K)
  refine wpCan_eff rfl ?_
  refine wpList_plain rfl (fun K hK => ?_)
  go_simp
  refine hK _ _ ?_
  clear hK K
  refine wpList_nil ?_
  refine And.intro ?_ ?_
  ·go_simp
  refine wpCan_nil ?_
  go_wp2_with fail
  go_end0
  refine ⟨rfl, ?_⟩
  have h7 := (HS7.out.front 2 rfl).drop
  have h8 : Sat B D (w7.setCell ⟨q, 4, none⟩ (.slice va (N + 1) vc)) (qbC q (.slice va (N + 1) vc) wv :: entsC (.slice va (N + 1) vc) (hs ++ [lessC e]) :: entsC wv ws :: blk bx (cellsC (lessC e)).toArray tEnC :: l) := by
   show Sat B D (w7.setCell ⟨q, 4, none⟩ (.slice va (N + 1) vc)) (qbC q _ _ :: ownS tEnC 18 _ (hs ++ [lessC e]).length _ :: _)
   rw [List.length_append, HN.out, List.flatMap_append]
   simpa using h7
  refine (queShut_C (Q := giveQ RC Q (entC e)) ⟨?_, ?_⟩ HR2.out h8).swap.drop
  ·show _ = giveL RC Q.held (entC e)
   rw [HG.out, List.map_append, HR1.out.1]
   rfl
  ·intro x hx
   rcases List.mem_append.1 hx with hx | hx
   ·exact HR1.out.2 x hx
   ·obtain rfl := List.mem_singleton.1 hx
    exact hc
end Go.Proofs.YtgljdkjepdknnaaGreatDoor
