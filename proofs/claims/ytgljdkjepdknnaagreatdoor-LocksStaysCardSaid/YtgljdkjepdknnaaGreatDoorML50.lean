/- LocksStays (ratlinelaw11): what is held to the end stays; behind the end there is nothing. (printed by genlkstays.py) -/
import Derived.Test.YtgljdkjepdknnaaGreatDoorML46
import Derived.Test.YtgljdkjepdknnaaGreatDoorML43
import Derived.Test.YtgljdkjepdknnaaGreatDoorML47
import Derived.Test.YtgljdkjepdknnaaGreatDoorML26
import Derived.Test.YtgljdkjepdknnaaGreatDoorML29
import Derived.Test.YtgljdkjepdknnaaGreatDoorML28
import Derived.Test.YtgljdkjepdknnaaGreatDoorML27
import Derived.Test.YtgljdkjepdknnaaGreatDoorML19
set_option maxHeartbeats 64000000
namespace Go.Proofs.YtgljdkjepdknnaaGreatDoor
open Go.ChangeShapes Go.WideShapes Go.ChangeAt Go.RowKit
set_option maxRecDepth 100000
set_option linter.unusedSimpArgs false
theorem pu {W : World} {tv av : Value} {ts : List (List Bool)} {acts : List ActE} (x : ActE) (tb : EnvD (cw W)) (ht : TblsRd W tv ts) (hz : ∀ c ∈ ts, c.length ≤ 140737488355328) (hv : kT W av acts) (hx : RdCl W x.x) (hf : bV x.x.c) :
  Calls Tryz.prog 9 #[tv, av, .agg x.cells.toArray] W fun r w' => r = .returned (.bool true) ∧ Kept (fun _ => False) W w' := by
 obtain ⟨D, hD⟩ : ∃ D, cw W = D := ⟨_, rfl⟩
 have hta : TblsAt D tv ts := by rw [← hD]; exact TblsAt.of_rd ht
 have HV := Eh (show ActsD D av acts by rw [← hD]; exact ActsD.of_rd hv)
 have hE : EnvD D := by rw [← hD]; exact tb
 have HE := Eh hE
 have zn := Eh (show ClOk D x.x by rw [← hD]; exact ClOk.of_rd hx)
 have BC := Eh hf
 obtain ⟨W1, hW1, hs1⟩ := Sat.hide ((show Sat W D W [] by rw [← hD]; exact Sat.start W).alloc x.cells.toArray uq)
 have uW := Eh hW1
 have zp := Eh (jF hE hs1)
 have xi := Eh (show ∀ (D' : PH) (w' : World), PH.le D D' → Sat W D' w' [] → Kept (fun _ => False) W w' from fun D' w' hle hs => hs.end_ (by rw [hD]; exact hle))
 obtain ⟨a, c, rfl, hN⟩ := HV.out.shape
 obtain ⟨us, _, _, hrd, _⟩ := id hta
 obtain ⟨ta, tc, rfl⟩ := hrd.shape
 have hml := hrd.2.1
 unfold maxLen at hml
 have HT := Eh hta
 have HZ := Eh hz
 obtain ⟨N, hNN⟩ : ∃ N, ts.length = N := ⟨_, rfl⟩
 have ym := Eh hNN
 obtain ⟨on, hon, ho7⟩ := rG x.owner
 have DZ := Eh hon
 clear hv tb hD ht hta hrd hE hz hx hf hW1 hs1 hon
 have AK := Eh (show TblsAt D (.slice ta N tc) ts by rw [← hNN]; exact HT.out)
 rw [hNN]
 clear hNN HT
 go_enter Tryz.func9, Tryz.ntmps9
 go_upto_region 1 with fail
 rw [← uW.out]
 clear uW
 generalize W.heap.size = ba at *
 go_upto_region 4 with (go_at_call 11; refine zp.out.mono ?_; rintro e1 w1 ⟨rfl, hs1⟩; have vg := Eh hs1; clear hs1 zp)
 have vr := Eh (az (fY (vg.out.blk 0 rfl)))
 have xu := Eh (qu (zn.out.rd vg.out))
 by_cases h5 : N ≤ 5
 rotate_left
 ·have h5i : (N : Int) > 5 := by omega
  generalize fK x.x.c = fb at *
  go_wp2_with (first | (refine ai rfl _ _ rfl _ _ rfl _ vr.out ?_) | (go_at_call 23; refine xu.out.mono ?_; rintro e2 w2 ⟨rfl, hk⟩; have uY := Eh (vg.out.kept hk); clear hk xu vr vg))
  go_ret
  exact ⟨rfl, xi.out D _ (PH.le.refl _) uY.out.drop⟩
 have h5i : ¬ (N : Int) > 5 := by omega
 cases hfew : fK x.x.c
 ·rw [hfew] at xu
  clear hfew
  go_wp2_with (first | (refine ai rfl _ _ rfl _ _ rfl _ vr.out ?_) | (go_at_call 23; refine xu.out.mono ?_; rintro e2 w2 ⟨rfl, hk⟩; have uY := Eh (vg.out.kept hk); clear hk xu vr vg))
  go_ret
  exact ⟨rfl, xi.out D _ (PH.le.refl _) uY.out.drop⟩
 rw [hfew] at xu
 have A5 := Eh hfew
 clear hfew
 go_upto_region 7 with (first | (refine ai rfl _ _ rfl _ _ rfl _ vr.out ?_) | (go_at_call 23; refine xu.out.mono ?_; rintro e2 w2 ⟨rfl, hk⟩; have HB := Eh (nZ 200 HE.out AK.out HZ.out (by have := ym.out; omega) HV.out (vg.out.kept hk)); clear hk xu vr vg))
 clear h5i
 go_upto_region 8 with (go_at_call 18; refine HB.out.mono ?_; rintro e3 w3 ⟨L, D1, m, rm, rfl, hle, hF, hs2⟩; have vz := Eh hle; have HF := Eh hF; have uY := Eh hs2; clear hle hF hs2 HB)
 obtain ⟨a0, a1, a18, a19, a20, a21⟩ := eD (uY.out.blk 1 rfl)
 have vr := Eh (az (fY (uY.out.blk 1 rfl)))
 have HA := Eh (nV (on : Int) x.x 3 0 (HE.out.mono vz.out) (zn.out.mono vz.out) ((m0 A5.out).mono (by omega)) (mm A5.out) (HF.out.sm (by decide)) (by have := HF.out.len; omega) (by have := HF.out.len; omega) (by have := HF.out.w; omega) uY.out)
 have CV := Eh (ug HF.out (ts := ts) (room := rm) (o := (on : Int)) ⟨by omega, by omega⟩ BC.out A5.out)
 have A6 := Eh (ask_err (m := m) (room := rm) (ok := bH ts x.x.c) (o := (on : Int)) (c := x.x.c) (dur := 3) (hand := 0))
 have zV := Eh (tn HF.out.sound.toKeep HF.out.why (ts := ts) (room := rm) (o := (on : Int)) (c := x.x.c))
 obtain ⟨R, hR⟩ : ∃ R, cW m rm (bH ts x.x.c) (on : Int) x.x.c 3 0 = R := ⟨_, rfl⟩
 rw [hR] at HA CV A6 zV
 obtain ⟨m1, is, e⟩ := R
 have A7 := Eh (show LkFine 41 m1 from CV.out)
 have zW := Eh (show e ≠ 0 → is = false ∧ (e = 111 ∨ e = 110 ∨ e = 62) from A6.out)
 have yO := Eh (show e = 0 → is = true → Stay8 m1 on x.x.c from zV.out)
 clear hR CV A6 zV
 have hon := DZ.out
 go_upto_region 10 with (first | (refine ai rfl _ _ rfl _ _ rfl _ vr.out ?_) | (go_at_call 14; refine HA.out.mono ?_; rintro e4 w4 ⟨D2, rfl, hle2, hs4⟩; have vv := Eh (vz.out.trans hle2); have vh := Eh (show Sat W D2 w4 (cd D2 L ts rm m1 :: _) from hs4); clear hle2 hs4 HA vr uY a0 a1 a18 a19 a20 a21))
 clear hon
 by_cases he : e = 0
 rotate_left
 ·obtain ⟨rfl, he3⟩ := zW.out he
  have he' : (e != 0) = true := by simpa using he
  clear yO zW
  rcases he3 with rfl | rfl | rfl
  all_goals
   go_wp2_with fail
   go_ret
   exact ⟨rfl, xi.out D2 _ vv.out vh.out.drop.drop⟩
 subst he
 have xZ := Eh (yO.out rfl)
 clear yO zW
 have Ca := Eh (i4 (on : Int) (HE.out.mono vv.out) (by have := A7.out.len; omega) (by have := A7.out.w; omega) vh.out)
 have zv := Eh (jL A7.out (on : Int) (w := 1) (by decide))
 have A8 := Eh (fun h : is = true => jS (xZ.out h) (w := 1) (by decide) (by decide))
 obtain ⟨m2, hm2⟩ : ∃ m2, (cY m1 (on : Int) 1).1 = m2 := ⟨_, rfl⟩
 rw [hm2] at zv A8
 have xx := Eh hm2
 clear hm2 xZ vh
 go_upto_region 13 with (go_at_call 16; refine Ca.out.mono ?_; rintro e5 w5 ⟨v5, D3, rfl, hle3, hs5⟩; rw [xx.out] at hs5; have wl := Eh (vv.out.trans hle3); have uZ := Eh hs5.swap.drop; clear hle3 hs5 Ca)
 have xp := Eh (jB (on : Int) 1 (HE.out.mono wl.out) (by have := zv.out.len; omega) (by have := zv.out.w; omega) uZ.out)
 have Cl := Eh (jL zv.out (on : Int) (w := cu 2 1) (by decide))
 have A9 := Eh (fun h : is = true => jS (A8.out h) (w := cu 2 1) (by decide) (by decide))
 obtain ⟨m3, hm3⟩ : ∃ m3, (cY m2 (on : Int) (cu 2 1)).1 = m3 := ⟨_, rfl⟩
 rw [hm3] at Cl A9
 have Ea := Eh hm3
 clear hm3 A8 uZ
 go_upto_region 14 with (go_at_call 15; refine xp.out.mono ?_; rintro e6 w6 ⟨v6, D4, rfl, hle4, hs6⟩; rw [Ea.out] at hs6; have vL := Eh (wl.out.trans hle4); have vi := Eh hs6.swap.drop; clear hle4 hs6 xp)
 have Dw := Eh (jB (on : Int) 2 (HE.out.mono vL.out) (by have := Cl.out.len; omega) (by have := Cl.out.w; omega) vi.out)
 have Ba := Eh (jL Cl.out (on : Int) (w := cu 2 2) (by decide))
 have Au := Eh (fun h : is = true => jS (A9.out h) (w := cu 2 2) (by decide) (by decide))
 obtain ⟨m5, hm5⟩ : ∃ m5, (cY m3 (on : Int) (cu 2 2)).1 = m5 := ⟨_, rfl⟩
 rw [hm5] at Ba Au
 have Eb := Eh hm5
 clear hm5 A9 vi
 go_upto_region 15 with (go_at_call 15; refine Dw.out.mono ?_; rintro e7 w7 ⟨v7, D5, rfl, hle5, hs7⟩; rw [Eb.out] at hs7; have vC := Eh (vL.out.trans hle5); have vn := Eh hs7.swap.drop; clear hle5 hs7 Dw)
 cases is
 ·have uZ := Eh vn.out
  clear vn Au
  have Ae := Eh (ri (on : Int) (HE.out.mono vC.out) (by have := Ba.out.len; omega) uZ.out)
  go_upto_region 25 with (go_at_call 29; refine Ae.out.mono ?_; rintro e6 w6 ⟨v6, D6, rfl, hle6, hs6⟩; have vF := Eh (vC.out.trans hle6); have vi := Eh hs6.swap.drop; clear hle6 hs6 Ae uZ)
  have Av := Eh (oP Ba.out (on : Int))
  obtain ⟨t1, t2, t3⟩ := mJ m5 (on : Int)
  have CW := Eh t1
  have Aa := Eh t2
  have CX := Eh t3
  have yJ := Eh (kF (on : Int) (jh Av.out.sc (by decide) (on : Int)) vi.out)
  clear t1 t2 t3 vi
  go_upto_region 26 with (first | (go_at_call 25; refine yJ.out.mono ?_; rintro e7 w7 ⟨z, D7, rfl, hz, hle7, hok, hs7⟩; rw [Aa.out]; have vB := Eh (vF.out.trans hle7); have vn := Eh ((bK hs7 hle7).alloc z.cells.toArray tCl); clear hz hle7 hok hs7 yJ) | (refine ax rfl _ _ _ rfl z.cells _ _ rfl rfl (by kernel_rfl) rfl (ClmE.one z) ?_))
  obtain ⟨W8, hW8, hs8⟩ := Sat.hide vn.out
  rw [← hW8]
  have wH := Eh (gy (on : Int) (by have := Av.out.len; omega) (Av.out.sm (by decide)) hs8.drop)
  clear hW8 hs8 vn
  go_wp2_with (first
   | (go_at_call 17; refine wH.out.mono ?_; rintro e9 w9 ⟨v9, D9, rfl, hle9, hs9⟩; rw [CW.out] at hs9; obtain ⟨cs9, hc9, _, hs10⟩ := dE hs9; obtain rfl : cs9 = [] := List.map_eq_nil_iff.1 hc9; obtain ⟨a9, c9, rfl⟩ := (show Sat W D9 w9 (aI tCl 16 v9 0 [] :: _) from hs10).own_shape; have wq := Eh (vB.out.trans hle9); have yS := Eh (gu (on : Int) (HE.out.mono wq.out) (by have := Av.out.len; omega) (bK hs10.drop hle9)); clear hle9 hs9 hc9 hs10 wH)
   | (go_at_call 28; refine yS.out.mono ?_; rintro e11 w11 ⟨u, rfl, hs11⟩; rw [CX.out] at hs11; obtain ⟨a11, c11, rfl⟩ := (show Sat W D9 w11 (aI 3 1 u 0 [] :: _) from hs11).own_shape; have vl := Eh hs11.drop.drop.drop; clear hs11 yS))
  go_ret
  exact ⟨rfl, xi.out D9 _ wq.out vl.out⟩
 ·have HH := Eh (Au.out rfl).h
  have wH := Eh (gy (on : Int) (by have := Ba.out.len; omega) (Ba.out.sm (by decide)) vn.out)
  clear Au vn
  go_upto_region 17 with (go_at_call 17; refine wH.out.mono ?_; rintro e8 w8 ⟨v8, D8, rfl, hle8, hs8⟩; obtain ⟨cs, hcm, hco, hs9⟩ := dE (bK hs8.swap hle8).swap; obtain ⟨a8, c8, rfl⟩ := hs9.own_shape; have xM := Eh (vC.out.trans hle8); have yh := Eh hcm; have As := Eh hco; have vu := Eh hs9; clear hle8 hs8 hcm hco hs9 wH)
  have hcl := (vu.out.own 0 rfl).rd.2.1
  unfold maxLen at hcl
  go_wp2_with fail
  go_loopw [14, 15] (fun cv ii wr => ∃ j : Nat, cv = .bool ((cs.take j).any (fun y => RC.cov y.c x.x.c)) ∧ ii = .int .i64 j ∧ j ≤ cs.length ∧ Sat W D8 wr [gx (.slice a8 cs.length c8) cs, cd D8 L ts rm m5, blk ba x.cells.toArray uq]) (fun _ ii _ => cs.length - (intOf ii).toNat)
  case atStart => exact ⟨0, rfl, rfl, by omega, vu.out⟩
  case round =>
   obtain ⟨j, rfl, rfl, hj, hs⟩ := hrel
   have wk := Eh hs
   clear hs vu
   by_cases hlt : j < cs.length
   ·have hji : (j : Int) < (cs.length : Int) := by omega
    obtain ⟨y, hy⟩ : ∃ y, cs[j]? = some y := ⟨cs[j]'hlt, List.getElem?_eq_getElem _⟩
    obtain ⟨g, og, hg, hr⟩ := aF ClmE.len (wk.out.own 0 rfl).rd hy rfl
    cases hg
    have vH := Eh (az (w := wr.drew) hr)
    have vt := Eh (az (w := wr.drew) (fY (wk.out.drew.blk 2 rfl)))
    have vE := Eh (rF (w := wr.drew) ((As.out y (List.mem_of_getElem? hy)).rd wk.out.drew) ((zn.out.mono xM.out).rd wk.out.drew))
    have xk := Eh (dR (fun y : ClmE => RC.cov y.c x.x.c) hy)
    obtain ⟨ab, hab⟩ : ∃ ab, (cs.take j).any (fun y => RC.cov y.c x.x.c) = ab := ⟨_, rfl⟩
    rw [hab] at xk ⊢
    clear hab hr hy
    go_upto_region 21 with fail
    cases ab
    ·refine ag [(0, false, 8), (1, false, 8), (2, false, 8), (3, false, 8), (4, false, 8), (5, false, 8), (6, false, 8), (7, false, 8), (8, true, 0), (9, false, 999), (10, false, 999)] (by kernel_rfl) (by kernel_rfl) ?_
     iterate 2 (refine af rfl rfl (fun K hK => ?_); (first | ((refine aj _ _ rfl _ _ rfl _ vH.out ?_); go_simp) | ((refine aj _ _ rfl _ _ rfl _ vt.out ?_); go_simp) | go_simp); refine hK _ ?_; clear hK K)
     iterate 6 (first | (refine aq rfl rfl ?_; simp only [Act.put, Ei, Ej, Ek, El, Em, En]) | (refine am rfl rfl (fun K hK => ?_); (first | ((refine aj _ _ rfl _ _ rfl _ vH.out ?_); go_simp) | ((refine aj _ _ rfl _ _ rfl _ vt.out ?_); go_simp) | go_simp); refine hK _ ?_; clear hK K))
     refine al rfl ?_
     refine aw rfl (fun K hK => ?_)
     go_simp
     refine vE.out.mono ?_
     rintro eb wb ⟨rfl, hkb⟩
     have xV := Eh (wk.out.drew.kept hkb)
     clear hkb vE vt vH wk
     refine hK _ _ ?_
     clear hK K
     refine wpList_nil ?_
     refine And.intro ?_ ?_
     ·go_simp
     iterate 2 (refine af rfl rfl (fun K hK => ?_); (first | ((refine aj _ _ rfl _ _ rfl _ vH.out ?_); go_simp) | ((refine aj _ _ rfl _ _ rfl _ vt.out ?_); go_simp) | go_simp); refine hK _ ?_; clear hK K)
     refine ar ?_
     go_wp2_with fail
     go_roundw
     case rel => exact ⟨j + 1, by rw [xk.out]; rfl, by go_num, by omega, xV.out⟩
     case measure => simp [intOf]; omega
    ·have xV := Eh wk.out.drew
     refine ag [(0, false, 8), (1, false, 8), (2, false, 8), (3, false, 8), (4, false, 8), (5, false, 8), (6, false, 8), (7, false, 8), (8, true, 0), (9, false, 999), (10, false, 999)] (by kernel_rfl) (by kernel_rfl) ?_
     iterate 2 (refine af rfl rfl (fun K hK => ?_); (first | ((refine aj _ _ rfl _ _ rfl _ vH.out ?_); go_simp) | ((refine aj _ _ rfl _ _ rfl _ vt.out ?_); go_simp) | go_simp); refine hK _ ?_; clear hK K)
     iterate 6 (first | (refine aq rfl rfl ?_; simp only [Act.put, Ei, Ej, Ek, El, Em, En]) | (refine am rfl rfl (fun K hK => ?_); (first | ((refine aj _ _ rfl _ _ rfl _ vH.out ?_); go_simp) | ((refine aj _ _ rfl _ _ rfl _ vt.out ?_); go_simp) | go_simp); refine hK _ ?_; clear hK K))
     refine al rfl ?_
     refine bO rfl ?_
     simp only [Act.put, Ei, Ej, Ek]
     refine wpList_nil ?_
     refine And.intro ?_ ?_
     ·go_simp
     iterate 2 (refine af rfl rfl (fun K hK => ?_); (first | ((refine aj _ _ rfl _ _ rfl _ vH.out ?_); go_simp) | ((refine aj _ _ rfl _ _ rfl _ vt.out ?_); go_simp) | go_simp); refine hK _ ?_; clear hK K)
     refine ar ?_
     clear vE vt vH wk
     go_wp2_with fail
     go_roundw
     case rel => exact ⟨j + 1, by rw [xk.out]; rfl, by go_num, by omega, xV.out⟩
     case measure => simp [intOf]; omega
   ·have hji : ¬ ((j : Int) < (cs.length : Int)) := by omega
    have hall : (cs.take j).any (fun y => RC.cov y.c x.x.c) = true := by
     rw [List.take_of_length_le (by omega)]
     obtain ⟨h, hh, hc⟩ := HH.out
     rw [← yh.out] at hh
     obtain ⟨y, hy, rfl⟩ := List.mem_map.1 hh
     exact List.any_eq_true.2 ⟨y, hy, hc⟩
    rw [hall]
    have uZ := Eh wk.out.drop
    clear hall wk HH yh As
    clear vC
    have vC := Eh xM.out
    go_upto_region 24 with fail
    clear hji
    have Ae := Eh (ri (on : Int) (HE.out.mono vC.out) (by have := Ba.out.len; omega) uZ.out)
    go_upto_region 25 with (go_at_call 29; refine Ae.out.mono ?_; rintro e6 w6 ⟨v6, D6, rfl, hle6, hs6⟩; have vF := Eh (vC.out.trans hle6); have vi := Eh hs6.swap.drop; clear hle6 hs6 Ae uZ)
    have Av := Eh (oP Ba.out (on : Int))
    obtain ⟨t1, t2, t3⟩ := mJ m5 (on : Int)
    have CW := Eh t1
    have Aa := Eh t2
    have CX := Eh t3
    have yJ := Eh (kF (on : Int) (jh Av.out.sc (by decide) (on : Int)) vi.out)
    clear t1 t2 t3 vi
    go_upto_region 26 with (first | (go_at_call 25; refine yJ.out.mono ?_; rintro e7 w7 ⟨z, D7, rfl, hz, hle7, hok, hs7⟩; rw [Aa.out]; have vB := Eh (vF.out.trans hle7); have vn := Eh ((bK hs7 hle7).alloc z.cells.toArray tCl); clear hz hle7 hok hs7 yJ) | (refine ax rfl _ _ _ rfl z.cells _ _ rfl rfl (by kernel_rfl) rfl (ClmE.one z) ?_))
    obtain ⟨W8, hW8, hs8⟩ := Sat.hide vn.out
    rw [← hW8]
    have wH := Eh (gy (on : Int) (by have := Av.out.len; omega) (Av.out.sm (by decide)) hs8.drop)
    clear hW8 hs8 vn
    go_wp2_with (first
     | (go_at_call 17; refine wH.out.mono ?_; rintro e9 w9 ⟨v9, D9, rfl, hle9, hs9⟩; rw [CW.out] at hs9; obtain ⟨cs9, hc9, _, hs10⟩ := dE hs9; obtain rfl : cs9 = [] := List.map_eq_nil_iff.1 hc9; obtain ⟨a9, c9, rfl⟩ := (show Sat W D9 w9 (aI tCl 16 v9 0 [] :: _) from hs10).own_shape; have wq := Eh (vB.out.trans hle9); have yS := Eh (gu (on : Int) (HE.out.mono wq.out) (by have := Av.out.len; omega) (bK hs10.drop hle9)); clear hle9 hs9 hc9 hs10 wH)
     | (go_at_call 28; refine yS.out.mono ?_; rintro e11 w11 ⟨u, rfl, hs11⟩; rw [CX.out] at hs11; obtain ⟨a11, c11, rfl⟩ := (show Sat W D9 w11 (aI 3 1 u 0 [] :: _) from hs11).own_shape; have vl := Eh hs11.drop.drop.drop; clear hs11 yS))
    go_ret
    exact ⟨rfl, xi.out D9 _ wq.out vl.out⟩
end Go.Proofs.YtgljdkjepdknnaaGreatDoor
