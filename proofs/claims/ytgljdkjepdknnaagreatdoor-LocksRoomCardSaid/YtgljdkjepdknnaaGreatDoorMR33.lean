/- Asking for a claim (locks.Ask). (printed by genlkask.py) -/
import Derived.Test.YtgljdkjepdknnaaGreatDoorMR28
import Derived.Test.YtgljdkjepdknnaaGreatDoorMR31
import Derived.Test.YtgljdkjepdknnaaGreatDoorMR32
namespace Go.Proofs.YtgljdkjepdknnaaGreatDoor
open Go.ChangeShapes Go.WideShapes Go.ChangeAt Go.RowKit
set_option maxRecDepth 100000
set_option linter.unusedSimpArgs false

/-- what asking comes to -/
def AskedL (B : World) (D : PH) (l : List HP) (L : Nat) (ts : List (List Bool)) (room : Int) (R : LkM × Bool × Int) (r : Ending) (w' : World) : Prop := ∃ D', r = .returned (.tuple #[.bool R.2.1, .int .i64 R.2.2]) ∧ PH.le D D' ∧ Sat B D' w' (lksC D' L ts room R.1 :: l)
theorem askK_no {m : LkM} {room : Int} {ok : Bool} {o : Int} {c : Clm} {dur hand : Int} (h : ok = false ∨ bitK dur hand = 0) : askK m room ok o c dur hand = (m, false, 111) := by
 unfold askK; rw [if_pos (by rcases h with h | h <;> simp [h])]
theorem askK_waits {m : LkM} {room : Int} {o : Int} {c : Clm} {dur hand : Int} (h : bitK dur hand ≠ 0) (hw : (waitsQ m.q o).2 = true) : askK m room true o c dur hand = (m, false, 110) := by
 unfold askK; rw [if_neg (by simp [h]), if_pos hw]
theorem askK_full {m : LkM} {room : Int} {o : Int} {c : Clm} {dur hand : Int} (h : bitK dur hand ≠ 0) (hw : (waitsQ m.q o).2 = false) (hh : hasK m o c = false) (hr : room ≤ ((m.q.held.length + m.q.waits.length : Nat) : Int)) : askK m room true o c dur hand = (m, false, 62) := by
 unfold askK; rw [if_neg (by simp [h]), if_neg (by simp [hw]), if_pos (by rw [hh, decide_eq_true hr]; rfl)]
theorem askK_go {m : LkM} {room : Int} {o : Int} {c : Clm} {dur hand : Int} (h : bitK dur hand ≠ 0) (hw : (waitsQ m.q o).2 = false) (hh : hasK m o c = true ∨ ¬ room ≤ ((m.q.held.length + m.q.waits.length : Nat) : Int)) : askK m room true o c dur hand = (⟨(askQ RC m.q o c true).1, noteR m.why o c (bitK dur hand)⟩, (askQ RC m.q o c true).2, 0) := by
 unfold askK; rw [if_neg (by simp [h]), if_neg (by simp [hw]), if_neg (by rcases hh with hh | hh <;> first | (rw [decide_eq_false hh]; simp) | simp [hh])]
set_option maxHeartbeats 16000000 in
theorem Ask_L {B w : World} {D : PH} {l : List HP} {L : Nat} {ts : List (List Bool)} {room : Int} {m : LkM} (o : Int) (c : ClmE) (dur hand : Int) (hD : EnvD D) (hc : ClOk D c) (hsm : ClmSm 1000000 c.c) (hnd : c.pr.p.nodes.length ≤ 1000000) (hqs : ∀ e ∈ m.q.held, ClmSm 1000000 e.c) (hh : m.q.held.length ≤ 100000) (hww : m.q.waits.length ≤ 1000) (hwy : m.why.length ≤ 100000) (h : Sat B D w (lksC D L ts room m :: l)) :
  Calls Tryz.prog 14 #[.pointer (some ⟨L, 0, none⟩), .int .i64 o, .agg c.cells.toArray, .int .i64 dur, .int .i64 hand] w (AskedL B D l L ts room (askK m room (mayK ts c.c) o c.c dur hand)) := by
 obtain ⟨W1, hW1, hs1⟩ := Sat.hide (h.alloc c.cells.toArray tCl)
 have HW1 := Lib.hid hW1
 obtain ⟨q, tv, rv, rs, ht, hr, h1⟩ := lksOpen hs1.swap
 have HT := Lib.hid ht
 have HR := Lib.hid hr
 have HD := Lib.hid hD
 have HC := Lib.hid hc
 have HSM := Lib.hid hsm
 have HQS := Lib.hid hqs
 have HS1 := Lib.hid h1
 have HCHK := Lib.hid (chk_C ht c hc hnd h1.drew)
 have HL := Lib.hid (loadCl (w := W1.drew) (blk_range (h1.drew.blk 3 rfl)))
 obtain ⟨c0, c1, c2, c3, _⟩ := cells4 (h1.blk 0 rfl)
 clear h hW1 hs1 ht hr h1 hD hc hsm hnd hqs
 cases hmay : mayK ts c.c
 ·rw [hmay] at HCHK
  have HO := Lib.hid (askK_no (m := m) (room := room) (ok := false) (o := o) (c := c.c) (dur := dur) (hand := hand) (.inl rfl))
  clear hmay
  go_enter Tryz.func14, Tryz.ntmps14
  go_upto_region 1 with fail
  rw [← HW1.out]
  clear HW1
  generalize w.heap.size = bx at *
  refine wp_region_canon [(0, false, 8), (1, false, 8), (2, false, 8), (3, false, 8), (4, false, 8), (5, false, 8), (6, false, 8), (7, false, 8), (8, true, 0), (9, false, 14), (10, false, 14), (11, false, 14), (12, false, 14), (13, false, 14), (14, true, 0), (15, false, 999), (16, false, 999)] (by kernel_rfl) (by kernel_rfl) ?_
  iterate 3 (refine wpCan_read rfl rfl (fun K hK => ?_); (first | ((refine still_ld _ _ rfl _ _ rfl _ HL.out ?_); go_simp) | go_simp); refine hK _ ?_; clear hK K)
  iterate 5 (first | (refine wpCan_no rfl rfl ?_; simp only [Act.put, List.setIfInBounds_toArray, List.set_cons_succ, List.set_cons_zero, List.getElem_toArray, List.getElem_cons_succ, List.getElem_cons_zero]) | (refine wpCan_yes rfl rfl (fun K hK => ?_); (first | ((refine still_ld _ _ rfl _ _ rfl _ HL.out ?_); go_simp) | go_simp); refine hK _ ?_; clear hK K))
  refine wpCan_eff rfl ?_
  refine wpList_do rfl (fun K hK => ?_)
  go_simp
  refine HCHK.out.mono ?_
  rintro e1 w1 ⟨rfl, hs2⟩
  have HS2 := Lib.hid hs2
  clear hs2 HCHK HS1 HL c0 c1 c2 c3
  refine hK _ _ ?_
  clear hK K
  refine wpList_nil ?_
  refine And.intro ?_ ?_
  ·go_simp
  first | (refine wpCan_no rfl rfl ?_; simp only [Act.put, List.setIfInBounds_toArray, List.set_cons_succ, List.set_cons_zero, List.getElem_toArray, List.getElem_cons_succ, List.getElem_cons_zero]) | (refine wpCan_yes rfl rfl (fun K hK => ?_); (first | ((refine still_ld _ _ rfl _ _ rfl _ HL.out ?_); go_simp) | go_simp); refine hK _ ?_; clear hK K)
  iterate 2 (refine wpCan_read rfl rfl (fun K hK => ?_); (first | ((refine still_ld _ _ rfl _ _ rfl _ HL.out ?_); go_simp) | go_simp); refine hK _ ?_; clear hK K)
  iterate 2 (first | (refine wpCan_no rfl rfl ?_; simp only [Act.put, List.setIfInBounds_toArray, List.set_cons_succ, List.set_cons_zero, List.getElem_toArray, List.getElem_cons_succ, List.getElem_cons_zero]) | (refine wpCan_yes rfl rfl (fun K hK => ?_); (first | ((refine still_ld _ _ rfl _ _ rfl _ HL.out ?_); go_simp) | go_simp); refine hK _ ?_; clear hK K))
  refine wpCan_eff rfl ?_
  refine wpList_not rfl ?_
  simp only [Act.put, List.setIfInBounds_toArray, List.set_cons_succ, List.set_cons_zero]
  refine wpList_nil ?_
  refine And.intro ?_ ?_
  ·go_simp
  first | (refine wpCan_no rfl rfl ?_; simp only [Act.put, List.setIfInBounds_toArray, List.set_cons_succ, List.set_cons_zero, List.getElem_toArray, List.getElem_cons_succ, List.getElem_cons_zero]) | (refine wpCan_yes rfl rfl (fun K hK => ?_); (first | ((refine still_ld _ _ rfl _ _ rfl _ HL.out ?_); go_simp) | go_simp); refine hK _ ?_; clear hK K)
  iterate 1 (refine wpCan_read rfl rfl (fun K hK => ?_); (first | ((refine still_ld _ _ rfl _ _ rfl _ HL.out ?_); go_simp) | go_simp); refine hK _ ?_; clear hK K)
  refine wpCan_nil ?_
  go_wp2_with fail
  go_ret2
  rw [HO.out]
  exact ⟨D, rfl, PH.le.refl _, lksShut HT.out HR.out (HS2.out.front 3 rfl).drop⟩
 rw [hmay] at HCHK
 clear hmay
 by_cases hb : bitK dur hand = 0
 ·have HO := Lib.hid (askK_no (m := m) (room := room) (ok := true) (o := o) (c := c.c) (dur := dur) (hand := hand) (.inr hb))
  have HB := Lib.hid hb
  clear hb
  go_enter Tryz.func14, Tryz.ntmps14
  go_upto_region 1 with fail
  rw [← HW1.out]
  clear HW1
  generalize w.heap.size = bx at *
  refine wp_region_canon [(0, false, 8), (1, false, 8), (2, false, 8), (3, false, 8), (4, false, 8), (5, false, 8), (6, false, 8), (7, false, 8), (8, true, 0), (9, false, 14), (10, false, 14), (11, false, 14), (12, false, 14), (13, false, 14), (14, true, 0), (15, false, 999), (16, false, 999)] (by kernel_rfl) (by kernel_rfl) ?_
  iterate 3 (refine wpCan_read rfl rfl (fun K hK => ?_); (first | ((refine still_ld _ _ rfl _ _ rfl _ HL.out ?_); go_simp) | go_simp); refine hK _ ?_; clear hK K)
  iterate 5 (first | (refine wpCan_no rfl rfl ?_; simp only [Act.put, List.setIfInBounds_toArray, List.set_cons_succ, List.set_cons_zero, List.getElem_toArray, List.getElem_cons_succ, List.getElem_cons_zero]) | (refine wpCan_yes rfl rfl (fun K hK => ?_); (first | ((refine still_ld _ _ rfl _ _ rfl _ HL.out ?_); go_simp) | go_simp); refine hK _ ?_; clear hK K))
  refine wpCan_eff rfl ?_
  refine wpList_do rfl (fun K hK => ?_)
  go_simp
  refine HCHK.out.mono ?_
  rintro e1 w1 ⟨rfl, hs2⟩
  have HS2 := Lib.hid hs2
  clear hs2 HCHK HS1 HL c0 c1 c2 c3
  refine hK _ _ ?_
  clear hK K
  refine wpList_nil ?_
  refine And.intro ?_ ?_
  ·go_simp
  first | (refine wpCan_no rfl rfl ?_; simp only [Act.put, List.setIfInBounds_toArray, List.set_cons_succ, List.set_cons_zero, List.getElem_toArray, List.getElem_cons_succ, List.getElem_cons_zero]) | (refine wpCan_yes rfl rfl (fun K hK => ?_); (first | ((refine still_ld _ _ rfl _ _ rfl _ HL.out ?_); go_simp) | go_simp); refine hK _ ?_; clear hK K)
  iterate 2 (refine wpCan_read rfl rfl (fun K hK => ?_); (first | ((refine still_ld _ _ rfl _ _ rfl _ HL.out ?_); go_simp) | go_simp); refine hK _ ?_; clear hK K)
  iterate 2 (first | (refine wpCan_no rfl rfl ?_; simp only [Act.put, List.setIfInBounds_toArray, List.set_cons_succ, List.set_cons_zero, List.getElem_toArray, List.getElem_cons_succ, List.getElem_cons_zero]) | (refine wpCan_yes rfl rfl (fun K hK => ?_); (first | ((refine still_ld _ _ rfl _ _ rfl _ HL.out ?_); go_simp) | go_simp); refine hK _ ?_; clear hK K))
  refine wpCan_eff rfl ?_
  refine wpList_do rfl (fun K hK => ?_)
  go_simp
  refine (bit_ok dur hand).mono ?_
  rintro e2 w2 ⟨rfl, rfl⟩
  rw [HB.out]
  refine hK _ _ ?_
  clear hK K
  refine wpList_nil ?_
  refine And.intro ?_ ?_
  ·go_simp
  first | (refine wpCan_no rfl rfl ?_; simp only [Act.put, List.setIfInBounds_toArray, List.set_cons_succ, List.set_cons_zero, List.getElem_toArray, List.getElem_cons_succ, List.getElem_cons_zero]) | (refine wpCan_yes rfl rfl (fun K hK => ?_); (first | ((refine still_ld _ _ rfl _ _ rfl _ HL.out ?_); go_simp) | go_simp); refine hK _ ?_; clear hK K)
  iterate 1 (refine wpCan_read rfl rfl (fun K hK => ?_); (first | ((refine still_ld _ _ rfl _ _ rfl _ HL.out ?_); go_simp) | go_simp); refine hK _ ?_; clear hK K)
  refine wpCan_nil ?_
  go_wp2_with fail
  go_ret2
  rw [HO.out]
  exact ⟨D, rfl, PH.le.refl _, lksShut HT.out HR.out (HS2.out.front 3 rfl).drop⟩
 have hb1 : (bitK dur hand == 0) = false := by simpa using hb
 have HB := Lib.hid hb
 have HB1 := Lib.hid hb1
 obtain ⟨bb, hbb⟩ : ∃ bb, bitK dur hand = bb := ⟨_, rfl⟩
 have HBB := Lib.hid hbb
 rw [hbb] at hb hb1
 clear hbb hb
 go_enter Tryz.func14, Tryz.ntmps14
 go_upto_region 1 with fail
 rw [← HW1.out]
 clear HW1
 generalize w.heap.size = bx at *
 refine wp_region_canon [(0, false, 8), (1, false, 8), (2, false, 8), (3, false, 8), (4, false, 8), (5, false, 8), (6, false, 8), (7, false, 8), (8, true, 0), (9, false, 14), (10, false, 14), (11, false, 14), (12, false, 14), (13, false, 14), (14, true, 0), (15, false, 999), (16, false, 999)] (by kernel_rfl) (by kernel_rfl) ?_
 iterate 3 (refine wpCan_read rfl rfl (fun K hK => ?_); (first | ((refine still_ld _ _ rfl _ _ rfl _ HL.out ?_); go_simp) | go_simp); refine hK _ ?_; clear hK K)
 iterate 5 (first | (refine wpCan_no rfl rfl ?_; simp only [Act.put, List.setIfInBounds_toArray, List.set_cons_succ, List.set_cons_zero, List.getElem_toArray, List.getElem_cons_succ, List.getElem_cons_zero]) | (refine wpCan_yes rfl rfl (fun K hK => ?_); (first | ((refine still_ld _ _ rfl _ _ rfl _ HL.out ?_); go_simp) | go_simp); refine hK _ ?_; clear hK K))
 refine wpCan_eff rfl ?_
 refine wpList_do rfl (fun K hK => ?_)
 go_simp
 refine HCHK.out.mono ?_
 rintro e1 w1 ⟨rfl, hs2⟩
 have HS2 := Lib.hid hs2
 clear hs2 HCHK HS1 HL c0 c1 c2 c3
 refine hK _ _ ?_
 clear hK K
 refine wpList_nil ?_
 refine And.intro ?_ ?_
 ·go_simp
 first | (refine wpCan_no rfl rfl ?_; simp only [Act.put, List.setIfInBounds_toArray, List.set_cons_succ, List.set_cons_zero, List.getElem_toArray, List.getElem_cons_succ, List.getElem_cons_zero]) | (refine wpCan_yes rfl rfl (fun K hK => ?_); (first | ((refine still_ld _ _ rfl _ _ rfl _ HL.out ?_); go_simp) | go_simp); refine hK _ ?_; clear hK K)
 iterate 2 (refine wpCan_read rfl rfl (fun K hK => ?_); (first | ((refine still_ld _ _ rfl _ _ rfl _ HL.out ?_); go_simp) | go_simp); refine hK _ ?_; clear hK K)
 iterate 2 (first | (refine wpCan_no rfl rfl ?_; simp only [Act.put, List.setIfInBounds_toArray, List.set_cons_succ, List.set_cons_zero, List.getElem_toArray, List.getElem_cons_succ, List.getElem_cons_zero]) | (refine wpCan_yes rfl rfl (fun K hK => ?_); (first | ((refine still_ld _ _ rfl _ _ rfl _ HL.out ?_); go_simp) | go_simp); refine hK _ ?_; clear hK K))
 refine wpCan_eff rfl ?_
 refine wpList_do rfl (fun K hK => ?_)
 go_simp
 refine (bit_ok dur hand).mono ?_
 rintro e2 w2 ⟨rfl, rfl⟩
 rw [HBB.out]
 refine hK _ _ ?_
 clear hK K
 refine wpList_nil ?_
 refine And.intro ?_ ?_
 ·go_simp
 first | (refine wpCan_no rfl rfl ?_; simp only [Act.put, List.setIfInBounds_toArray, List.set_cons_succ, List.set_cons_zero, List.getElem_toArray, List.getElem_cons_succ, List.getElem_cons_zero]) | (refine wpCan_yes rfl rfl (fun K hK => ?_); (first | ((refine still_ld _ _ rfl _ _ rfl _ HL.out ?_); go_simp) | go_simp); refine hK _ ?_; clear hK K)
 iterate 1 (refine wpCan_read rfl rfl (fun K hK => ?_); (first | ((refine still_ld _ _ rfl _ _ rfl _ HL.out ?_); go_simp) | go_simp); refine hK _ ?_; clear hK K)
 refine wpCan_nil ?_
 go_upto_region 3 with fail
 clear hb1
 obtain ⟨c0, c1, c2, c3, _⟩ := cells4 (HS2.out.blk 0 rfl)
 have HWT := Lib.hid (Waits_C o HS2.out.swap)
 go_upto_region 4 with (first | (go_at_call 42; refine HWT.out.mono ?_; rintro e3 w3 ⟨z, rfl, hzc, hzok, hs3⟩; have HS3 := Lib.hid (hs3.alloc z.cells.toArray tCl); clear hzc hzok hs3 HWT HS2 c0 c1 c2 c3) | (refine wpList_store_new rfl _ _ _ rfl z.cells _ _ rfl rfl (by kernel_rfl) rfl (ClmE.one z) ?_))
 obtain ⟨W4, hW4, hs4⟩ := Sat.hide HS3.out
 rw [← hW4]
 clear hW4 HS3
 generalize w3.heap.size = bz at hs4 ⊢
 have HS4 := Lib.hid (lksShut HT.out HR.out (((hs4.front 3 rfl).front 2 rfl).front 3 rfl))
 clear hs4
 cases hwt : (waitsQ m.q o).2
 rotate_left
 ·have HO := Lib.hid (askK_waits (room := room) (c := c.c) HB.out hwt)
  clear hwt
  go_wp2_with fail
  go_ret2
  rw [HO.out]
  exact ⟨D, rfl, PH.le.refl _, HS4.out.rm2.swap.drop⟩
 have HWT := Lib.hid hwt
 clear hwt
 have HHAS := Lib.hid (has_W o c hh HC.out HS4.out.drew)
 have HLX := Lib.hid (loadCl (w := W4.drew) (blk_range (HS4.out.drew.blk 2 rfl)))
 go_upto_region 6 with fail
 cases hhas : hasK m o c.c
 ·rw [hhas] at HHAS
  obtain ⟨lnv, hlnv⟩ : ∃ lnv, lnv = m.q.held.length + m.q.waits.length := ⟨_, rfl⟩
  have HLN := Lib.hid hlnv
  by_cases hroom : room ≤ (lnv : Int)
  ·have HO := Lib.hid (askK_full (c := c.c) HB.out HWT.out hhas (by rw [← hlnv]; exact hroom))
   have hroom' : (lnv : Int) ≥ room := hroom
   clear hhas hroom hlnv
   refine wp_region_canon [(0, false, 3), (1, false, 3), (2, false, 3), (3, true, 0), (4, false, 10), (5, false, 10), (6, false, 10), (7, false, 10), (8, false, 10), (9, false, 10), (11, false, 999), (12, false, 999), (13, false, 999), (14, false, 999), (10, true, 0), (15, false, 999), (16, false, 999)] (by kernel_rfl) (by kernel_rfl) ?_
   iterate 3 (refine wpCan_read rfl rfl (fun K hK => ?_); (first | ((refine still_ld _ _ rfl _ _ rfl _ HLX.out ?_); go_simp) | go_simp); refine hK _ ?_; clear hK K)
   refine wpCan_eff rfl ?_
   refine wpList_do rfl (fun K hK => ?_)
   go_simp
   refine HHAS.out.mono ?_
   rintro e5 w5 ⟨rfl, hs5⟩
   obtain ⟨q6, tv6, rv6, rs6, ht6, hr6, h6⟩ := lksOpen hs5
   obtain ⟨c0, c1, c2, c3, _⟩ := cells4 (h6.blk 0 rfl)
   have HLEN := Lib.hid (Len_C (by omega) h6.swap)
   have HS5 := Lib.hid h6.swap
   have HT6 := Lib.hid ht6
   have HR6 := Lib.hid hr6
   clear hs5 ht6 hr6 h6 HHAS HS4 HLX
   rw [← HLN.out] at HLEN
   refine hK _ _ ?_
   clear hK K
   refine wpList_nil ?_
   refine And.intro ?_ ?_
   ·go_simp
   iterate 2 (refine wpCan_read rfl rfl (fun K hK => ?_); (first | ((refine still_ld _ _ rfl _ _ rfl _ HLX.out ?_); go_simp) | go_simp); refine hK _ ?_; clear hK K)
   iterate 8 (first | (refine wpCan_no rfl rfl ?_; simp only [Act.put, List.setIfInBounds_toArray, List.set_cons_succ, List.set_cons_zero, List.getElem_toArray, List.getElem_cons_succ, List.getElem_cons_zero]) | (refine wpCan_yes rfl rfl (fun K hK => ?_); (first | ((refine still_ld _ _ rfl _ _ rfl _ HLX.out ?_); go_simp) | go_simp); refine hK _ ?_; clear hK K))
   refine wpCan_eff rfl ?_
   refine wpList_do rfl (fun K hK => ?_)
   go_simp
   refine HLEN.out.mono ?_
   rintro e6 w6 ⟨rfl, hk6⟩
   have HS6 := Lib.hid (HS5.out.kept hk6)
   clear hk6 HLEN HS5 c0 c1 c2 c3
   obtain ⟨c0, c1, c2, c3, _⟩ := cells4 (HS6.out.blk 1 rfl)
   refine hK _ _ ?_
   clear hK K
   refine wpList_nil ?_
   refine And.intro ?_ ?_
   ·go_simp
   first | (refine wpCan_no rfl rfl ?_; simp only [Act.put, List.setIfInBounds_toArray, List.set_cons_succ, List.set_cons_zero, List.getElem_toArray, List.getElem_cons_succ, List.getElem_cons_zero]) | (refine wpCan_yes rfl rfl (fun K hK => ?_); (first | ((refine still_ld _ _ rfl _ _ rfl _ HLX.out ?_); go_simp) | go_simp); refine hK _ ?_; clear hK K)
   iterate 1 (refine wpCan_read rfl rfl (fun K hK => ?_); (first | ((refine still_ld _ _ rfl _ _ rfl _ HLX.out ?_); go_simp) | go_simp); refine hK _ ?_; clear hK K)
   refine wpCan_nil ?_
   go_wp2_with fail
   go_ret2
   rw [HO.out]
   exact ⟨D, rfl, PH.le.refl _, (lksShut HT6.out HR6.out HS6.out.swap).rm2.swap.drop⟩
  ·have HO := Lib.hid (askK_go (c := c.c) HB.out HWT.out (.inr (by rw [← hlnv]; exact hroom)))
   have hroom' : ¬ (lnv : Int) ≥ room := hroom
   clear hhas hroom hlnv
   refine wp_region_canon [(0, false, 3), (1, false, 3), (2, false, 3), (3, true, 0), (4, false, 10), (5, false, 10), (6, false, 10), (7, false, 10), (8, false, 10), (9, false, 10), (11, false, 999), (12, false, 999), (13, false, 999), (14, false, 999), (10, true, 0), (15, false, 999), (16, false, 999)] (by kernel_rfl) (by kernel_rfl) ?_
   iterate 3 (refine wpCan_read rfl rfl (fun K hK => ?_); (first | ((refine still_ld _ _ rfl _ _ rfl _ HLX.out ?_); go_simp) | go_simp); refine hK _ ?_; clear hK K)
   refine wpCan_eff rfl ?_
   refine wpList_do rfl (fun K hK => ?_)
   go_simp
   refine HHAS.out.mono ?_
   rintro e5 w5 ⟨rfl, hs5⟩
   obtain ⟨q6, tv6, rv6, rs6, ht6, hr6, h6⟩ := lksOpen hs5
   obtain ⟨c0, c1, c2, c3, _⟩ := cells4 (h6.blk 0 rfl)
   have HLEN := Lib.hid (Len_C (by omega) h6.swap)
   have HS5 := Lib.hid h6.swap
   have HT6 := Lib.hid ht6
   have HR6 := Lib.hid hr6
   clear hs5 ht6 hr6 h6 HHAS HS4 HLX
   rw [← HLN.out] at HLEN
   refine hK _ _ ?_
   clear hK K
   refine wpList_nil ?_
   refine And.intro ?_ ?_
   ·go_simp
   iterate 2 (refine wpCan_read rfl rfl (fun K hK => ?_); (first | ((refine still_ld _ _ rfl _ _ rfl _ HLX.out ?_); go_simp) | go_simp); refine hK _ ?_; clear hK K)
   iterate 8 (first | (refine wpCan_no rfl rfl ?_; simp only [Act.put, List.setIfInBounds_toArray, List.set_cons_succ, List.set_cons_zero, List.getElem_toArray, List.getElem_cons_succ, List.getElem_cons_zero]) | (refine wpCan_yes rfl rfl (fun K hK => ?_); (first | ((refine still_ld _ _ rfl _ _ rfl _ HLX.out ?_); go_simp) | go_simp); refine hK _ ?_; clear hK K))
   refine wpCan_eff rfl ?_
   refine wpList_do rfl (fun K hK => ?_)
   go_simp
   refine HLEN.out.mono ?_
   rintro e6 w6 ⟨rfl, hk6⟩
   have HS6 := Lib.hid (HS5.out.kept hk6)
   clear hk6 HLEN HS5 c0 c1 c2 c3
   obtain ⟨c0, c1, c2, c3, _⟩ := cells4 (HS6.out.blk 1 rfl)
   refine hK _ _ ?_
   clear hK K
   refine wpList_nil ?_
   refine And.intro ?_ ?_
   ·go_simp
   first | (refine wpCan_no rfl rfl ?_; simp only [Act.put, List.setIfInBounds_toArray, List.set_cons_succ, List.set_cons_zero, List.getElem_toArray, List.getElem_cons_succ, List.getElem_cons_zero]) | (refine wpCan_yes rfl rfl (fun K hK => ?_); (first | ((refine still_ld _ _ rfl _ _ rfl _ HLX.out ?_); go_simp) | go_simp); refine hK _ ?_; clear hK K)
   iterate 1 (refine wpCan_read rfl rfl (fun K hK => ?_); (first | ((refine still_ld _ _ rfl _ _ rfl _ HLX.out ?_); go_simp) | go_simp); refine hK _ ?_; clear hK K)
   refine wpCan_nil ?_
   have HS8 := Lib.hid (lksShut HT6.out HR6.out HS6.out.swap)
   clear HS6 HT6 HR6
   clear hroom'
   go_upto_region 8 with fail
   have HLX := Lib.hid (loadCl (blk_range (HS8.out.blk 2 rfl)))
   have HCL := Lib.hid (clone_C (x := c) HC.out HSM.out HS8.out)
   go_upto_region 9 with (first | (refine wpList_ld rfl _ _ rfl _ _ rfl _ HLX.out ?_) | (go_at_call 45; refine HCL.out.mono ?_; rintro e7 w7 ⟨y, D7, rfl, hyc, hle7, hyok, hs7⟩; have HYC := Lib.hid hyc; have HLE7 := Lib.hid hle7; have HYOK := Lib.hid hyok; have HS7 := Lib.hid (hs7.front 2 rfl); clear hyc hle7 hyok hs7 HCL HLX HS8) | (refine wpList_store_whole rfl _ _ _ rfl tCl bx rfl y.cells rfl c.cells.toArray HS7.out (by kernel_rfl) rfl (ClmE.one y) ?_; intro w8 hs8; have HS8 := Lib.hid hs8; clear hs8 HS7))
   obtain ⟨q9, tv9, rv9, rs9, ht9, hr9, h9⟩ := lksOpen (lks_mono HS8.out.swap HLE7.out)
   obtain ⟨c0, c1, c2, c3, _⟩ := cells4 (h9.blk 0 rfl)
   have HLY := Lib.hid (loadCl (w := w8.drew) (blk_range (h9.drew.blk 3 rfl)))
   have HASK := Lib.hid (Ask_C o y (HD.out.mono HLE7.out) HYOK.out (by rw [HYC.out]; exact HSM.out) HQS.out hh hww h9.drew.swap)
   rw [HYC.out] at HASK
   have HT9 := Lib.hid ht9
   have HR9 := Lib.hid hr9
   clear ht9 hr9 h9 HS8
   refine wp_region_canon [(0, false, 6), (1, false, 6), (2, false, 6), (3, false, 6), (4, false, 6), (5, false, 6), (6, true, 0), (7, false, 999)] (by kernel_rfl) (by kernel_rfl) ?_
   iterate 6 (refine wpCan_read rfl rfl (fun K hK => ?_); (first | ((refine still_ld _ _ rfl _ _ rfl _ HLY.out ?_); go_simp) | go_simp); refine hK _ ?_; clear hK K)
   refine wpCan_eff rfl ?_
   refine wpList_do rfl (fun K hK => ?_)
   go_simp
   refine HASK.out.mono ?_
   rintro e10 w10 ⟨D10, rfl, hle10, hs10⟩
   have HLE10 := Lib.hid hle10
   have HS10 := Lib.hid (lksShut (m := ⟨(askQ RC m.q o c.c true).1, m.why⟩) (HT9.out.mono hle10) (HR9.out.mono hle10) hs10.swap)
   clear hle10 hs10 HASK HLY HT9 HR9 c0 c1 c2 c3
   refine hK _ _ ?_
   clear hK K
   refine wpList_nil ?_
   refine And.intro ?_ ?_
   ·go_simp
   iterate 1 (refine wpCan_read rfl rfl (fun K hK => ?_); (first | ((refine still_ld _ _ rfl _ _ rfl _ HLY.out ?_); go_simp) | go_simp); refine hK _ ?_; clear hK K)
   refine wpCan_nil ?_
   have HLZ := Lib.hid (loadCl (w := w10.drew) (blk_range (HS10.out.drew.blk 1 rfl)))
   have HNT := Lib.hid (note_W (m := ⟨(askQ RC m.q o c.c true).1, m.why⟩) o y (bitK dur hand) hwy (HYOK.out.mono HLE10.out) HS10.out.drew)
   go_upto_region 10 with fail
   refine wp_region_canon [(0, false, 6), (1, false, 6), (2, false, 6), (3, false, 5), (4, false, 5), (5, true, 0), (6, true, 0)] (by kernel_rfl) (by kernel_rfl) ?_
   iterate 5 (refine wpCan_read rfl rfl (fun K hK => ?_); (first | ((refine still_ld _ _ rfl _ _ rfl _ HLZ.out ?_); go_simp) | go_simp); refine hK _ ?_; clear hK K)
   refine wpCan_eff rfl ?_
   refine wpList_do rfl (fun K hK => ?_)
   go_simp
   refine (bit_ok dur hand).mono ?_
   rintro e11 w11 ⟨rfl, rfl⟩
   refine hK _ _ ?_
   clear hK K
   refine wpList_nil ?_
   refine And.intro ?_ ?_
   ·(refine allOk_cons ?_ (allOk_cons ?_ (allOk_cons ?_ (allOk_cons ?_ (allOk_cons ?_ (by unfold allOk; trivial))))) <;> first | exact pend_ld _ _ rfl _ _ rfl _ HLZ.out rfl | go_simp)
   refine wpCan_eff rfl ?_
   refine wpList_do rfl (fun K hK => ?_)
   go_simp
   refine HNT.out.mono ?_
   rintro e12 w12 ⟨rfl, hs12⟩
   have HS12 := Lib.hid hs12
   clear hs12 HNT HLZ HS10
   refine hK _ _ ?_
   clear hK K
   refine wpList_nil ?_
   refine And.intro ?_ ?_
   ·go_simp
   refine wpCan_nil ?_
   go_wp2_with fail
   go_ret2
   rw [HO.out]
   have h12 := HS12.out.rm2.swap.drop
   rw [HYC.out] at h12
   exact ⟨D10, rfl, HLE7.out.trans HLE10.out, h12⟩
 ·rw [hhas] at HHAS
  have HO := Lib.hid (askK_go (room := room) (c := c.c) HB.out HWT.out (.inl hhas))
  clear hhas
  refine wp_region_canon [(0, false, 3), (1, false, 3), (2, false, 3), (3, true, 0), (4, false, 10), (5, false, 10), (6, false, 10), (7, false, 10), (8, false, 10), (9, false, 10), (11, false, 999), (12, false, 999), (13, false, 999), (14, false, 999), (10, true, 0), (15, false, 999), (16, false, 999)] (by kernel_rfl) (by kernel_rfl) ?_
  iterate 3 (refine wpCan_read rfl rfl (fun K hK => ?_); (first | ((refine still_ld _ _ rfl _ _ rfl _ HLX.out ?_); go_simp) | go_simp); refine hK _ ?_; clear hK K)
  refine wpCan_eff rfl ?_
  refine wpList_do rfl (fun K hK => ?_)
  go_simp
  refine HHAS.out.mono ?_
  rintro e5 w5 ⟨rfl, hs5⟩
  have HS8 := Lib.hid hs5
  clear hs5 HHAS HS4 HLX
  refine hK _ _ ?_
  clear hK K
  refine wpList_nil ?_
  refine And.intro ?_ ?_
  ·go_simp
  iterate 2 (refine wpCan_read rfl rfl (fun K hK => ?_); (first | ((refine still_ld _ _ rfl _ _ rfl _ HLX.out ?_); go_simp) | go_simp); refine hK _ ?_; clear hK K)
  iterate 8 (first | (refine wpCan_no rfl rfl ?_; simp only [Act.put, List.setIfInBounds_toArray, List.set_cons_succ, List.set_cons_zero, List.getElem_toArray, List.getElem_cons_succ, List.getElem_cons_zero]) | (refine wpCan_yes rfl rfl (fun K hK => ?_); (first | ((refine still_ld _ _ rfl _ _ rfl _ HLX.out ?_); go_simp) | go_simp); refine hK _ ?_; clear hK K))
  refine wpCan_eff rfl ?_
  refine wpList_not rfl ?_
  simp only [Act.put, List.setIfInBounds_toArray, List.set_cons_succ, List.set_cons_zero]
  refine wpList_nil ?_
  refine And.intro ?_ ?_
  ·go_simp
  first | (refine wpCan_no rfl rfl ?_; simp only [Act.put, List.setIfInBounds_toArray, List.set_cons_succ, List.set_cons_zero, List.getElem_toArray, List.getElem_cons_succ, List.getElem_cons_zero]) | (refine wpCan_yes rfl rfl (fun K hK => ?_); (first | ((refine still_ld _ _ rfl _ _ rfl _ HLX.out ?_); go_simp) | go_simp); refine hK _ ?_; clear hK K)
  iterate 1 (refine wpCan_read rfl rfl (fun K hK => ?_); (first | ((refine still_ld _ _ rfl _ _ rfl _ HLX.out ?_); go_simp) | go_simp); refine hK _ ?_; clear hK K)
  refine wpCan_nil ?_
  go_upto_region 8 with fail
  have HLX := Lib.hid (loadCl (blk_range (HS8.out.blk 2 rfl)))
  have HCL := Lib.hid (clone_C (x := c) HC.out HSM.out HS8.out)
  go_upto_region 9 with (first | (refine wpList_ld rfl _ _ rfl _ _ rfl _ HLX.out ?_) | (go_at_call 45; refine HCL.out.mono ?_; rintro e7 w7 ⟨y, D7, rfl, hyc, hle7, hyok, hs7⟩; have HYC := Lib.hid hyc; have HLE7 := Lib.hid hle7; have HYOK := Lib.hid hyok; have HS7 := Lib.hid (hs7.front 2 rfl); clear hyc hle7 hyok hs7 HCL HLX HS8) | (refine wpList_store_whole rfl _ _ _ rfl tCl bx rfl y.cells rfl c.cells.toArray HS7.out (by kernel_rfl) rfl (ClmE.one y) ?_; intro w8 hs8; have HS8 := Lib.hid hs8; clear hs8 HS7))
  obtain ⟨q9, tv9, rv9, rs9, ht9, hr9, h9⟩ := lksOpen (lks_mono HS8.out.swap HLE7.out)
  obtain ⟨c0, c1, c2, c3, _⟩ := cells4 (h9.blk 0 rfl)
  have HLY := Lib.hid (loadCl (w := w8.drew) (blk_range (h9.drew.blk 3 rfl)))
  have HASK := Lib.hid (Ask_C o y (HD.out.mono HLE7.out) HYOK.out (by rw [HYC.out]; exact HSM.out) HQS.out hh hww h9.drew.swap)
  rw [HYC.out] at HASK
  have HT9 := Lib.hid ht9
  have HR9 := Lib.hid hr9
  clear ht9 hr9 h9 HS8
  refine wp_region_canon [(0, false, 6), (1, false, 6), (2, false, 6), (3, false, 6), (4, false, 6), (5, false, 6), (6, true, 0), (7, false, 999)] (by kernel_rfl) (by kernel_rfl) ?_
  iterate 6 (refine wpCan_read rfl rfl (fun K hK => ?_); (first | ((refine still_ld _ _ rfl _ _ rfl _ HLY.out ?_); go_simp) | go_simp); refine hK _ ?_; clear hK K)
  refine wpCan_eff rfl ?_
  refine wpList_do rfl (fun K hK => ?_)
  go_simp
  refine HASK.out.mono ?_
  rintro e10 w10 ⟨D10, rfl, hle10, hs10⟩
  have HLE10 := Lib.hid hle10
  have HS10 := Lib.hid (lksShut (m := ⟨(askQ RC m.q o c.c true).1, m.why⟩) (HT9.out.mono hle10) (HR9.out.mono hle10) hs10.swap)
  clear hle10 hs10 HASK HLY HT9 HR9 c0 c1 c2 c3
  refine hK _ _ ?_
  clear hK K
  refine wpList_nil ?_
  refine And.intro ?_ ?_
  ·go_simp
  iterate 1 (refine wpCan_read rfl rfl (fun K hK => ?_); (first | ((refine still_ld _ _ rfl _ _ rfl _ HLY.out ?_); go_simp) | go_simp); refine hK _ ?_; clear hK K)
  refine wpCan_nil ?_
  have HLZ := Lib.hid (loadCl (w := w10.drew) (blk_range (HS10.out.drew.blk 1 rfl)))
  have HNT := Lib.hid (note_W (m := ⟨(askQ RC m.q o c.c true).1, m.why⟩) o y (bitK dur hand) hwy (HYOK.out.mono HLE10.out) HS10.out.drew)
  go_upto_region 10 with fail
  refine wp_region_canon [(0, false, 6), (1, false, 6), (2, false, 6), (3, false, 5), (4, false, 5), (5, true, 0), (6, true, 0)] (by kernel_rfl) (by kernel_rfl) ?_
  iterate 5 (refine wpCan_read rfl rfl (fun K hK => ?_); (first | ((refine still_ld _ _ rfl _ _ rfl _ HLZ.out ?_); go_simp) | go_simp); refine hK _ ?_; clear hK K)
  refine wpCan_eff rfl ?_
  refine wpList_do rfl (fun K hK => ?_)
  go_simp
  refine (bit_ok dur hand).mono ?_
  rintro e11 w11 ⟨rfl, rfl⟩
  refine hK _ _ ?_
  clear hK K
  refine wpList_nil ?_
  refine And.intro ?_ ?_
  ·(refine allOk_cons ?_ (allOk_cons ?_ (allOk_cons ?_ (allOk_cons ?_ (allOk_cons ?_ (by unfold allOk; trivial))))) <;> first | exact pend_ld _ _ rfl _ _ rfl _ HLZ.out rfl | go_simp)
  refine wpCan_eff rfl ?_
  refine wpList_do rfl (fun K hK => ?_)
  go_simp
  refine HNT.out.mono ?_
  rintro e12 w12 ⟨rfl, hs12⟩
  have HS12 := Lib.hid hs12
  clear hs12 HNT HLZ HS10
  refine hK _ _ ?_
  clear hK K
  refine wpList_nil ?_
  refine And.intro ?_ ?_
  ·go_simp
  refine wpCan_nil ?_
  go_wp2_with fail
  go_ret2
  rw [HO.out]
  have h12 := HS12.out.rm2.swap.drop
  rw [HYC.out] at h12
  exact ⟨D10, rfl, HLE7.out.trans HLE10.out, h12⟩
end Go.Proofs.YtgljdkjepdknnaaGreatDoor
