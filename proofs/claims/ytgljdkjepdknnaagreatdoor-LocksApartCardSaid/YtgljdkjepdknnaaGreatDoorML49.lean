/- LocksApart (ratlinelaw11): no two owners hold claims that are in conflict; nobody waits without blockers. -/
import Derived.Test.YtgljdkjepdknnaaGreatDoorML46
import Derived.Test.YtgljdkjepdknnaaGreatDoorML43
import Derived.Test.YtgljdkjepdknnaaGreatDoorML47
import Derived.Test.YtgljdkjepdknnaaGreatDoorML26
import Derived.Test.YtgljdkjepdknnaaGreatDoorML29
set_option maxHeartbeats 64000000
namespace Go.Proofs.YtgljdkjepdknnaaGreatDoor
open Go.ChangeShapes Go.WideShapes Go.ChangeAt Go.RowKit
set_option maxRecDepth 100000
set_option linter.unusedSimpArgs false
theorem nG {W : World} {tv av : Value} {ts : List (List Bool)} {acts : List ActE} (tb : EnvD (cw W)) (ht : TblsRd W tv ts) (hz : ∀ c ∈ ts, c.length ≤ 140737488355328) (hv : kT W av acts) :
  Calls Tryz.prog 8 #[tv, av] W fun r w' => r = .returned (.bool true) ∧ Kept (fun _ => False) W w' := by
 obtain ⟨D, hD⟩ : ∃ D, cw W = D := ⟨_, rfl⟩
 have hta : TblsAt D tv ts := by rw [← hD]; exact TblsAt.of_rd ht
 have HV := Eh (show ActsD D av acts by rw [← hD]; exact ActsD.of_rd hv)
 have hE : EnvD D := by rw [← hD]; exact tb
 have HE := Eh hE
 have zp := Eh (jF hE (show Sat W D W [] by rw [← hD]; exact Sat.start W))
 have xi := Eh (show ∀ (D' : PH) (w' : World), PH.le D D' → Sat W D' w' [] → Kept (fun _ => False) W w' from fun D' w' hle hs => hs.end_ (by rw [hD]; exact hle))
 obtain ⟨a, c, rfl, hN⟩ := HV.out.shape
 obtain ⟨us, _, _, hrd, _⟩ := id hta
 obtain ⟨ta, tc, rfl⟩ := hrd.shape
 have hml := hrd.2.1
 unfold maxLen at hml
 have HT := Eh hta
 have HZ := Eh hz
 obtain ⟨N, hNN⟩ : ∃ N, ts.length = N := ⟨_, rfl⟩
 have ym := Eh hNN
 clear hv tb hD ht hta hrd hE hz
 by_cases h5 : N ≤ 5
 rotate_left
 ·have h5i : (N : Int) > 5 := by omega
  rw [hNN]
  clear hNN
  go_enter Tryz.func8, Tryz.ntmps8
  go_wp2_with (go_at_call 11; refine zp.out.mono ?_; rintro e1 w1 ⟨rfl, hs1⟩; have uX := Eh hs1; clear hs1 zp)
  go_ret
  exact ⟨rfl, xi.out D _ (PH.le.refl _) uX.out⟩
 have h5i : ¬ (N : Int) > 5 := by omega
 have AK := Eh (show TblsAt D (.slice ta N tc) ts by rw [← hNN]; exact HT.out)
 rw [hNN]
 clear hNN HT hml
 go_enter Tryz.func8, Tryz.ntmps8
 go_upto_region 6 with (go_at_call 11; refine zp.out.mono ?_; rintro e1 w1 ⟨rfl, hs1⟩; have HB := Eh (nZ 200 HE.out AK.out HZ.out (by have := ym.out; omega) HV.out hs1); clear hs1 zp)
 clear h5i
 go_upto_region 7 with (go_at_call 18; refine HB.out.mono ?_; rintro e2 w2 ⟨L, D1, m, rm, rfl, hle, hF, hs2⟩; have vz := Eh hle; have HF := Eh hF; have vg := Eh hs2; clear hle hF hs2 HB)
 have CT := Eh (HE.out.mono vz.out)
 go_wp2_with fail
 go_loopw [7] (fun ii wr => ∃ (i : Nat) (D2 : PH), ii = .int .i64 i ∧ i ≤ 8 ∧ PH.le D1 D2 ∧ Sat W D2 wr [cd D2 L ts rm m]) (fun ii _ => 8 - (intOf ii).toNat)
 case atStart => exact ⟨0, D1, rfl, by omega, PH.le.refl _, vg.out⟩
 case round =>
  obtain ⟨i, D2, rfl, hi, hle2, hs⟩ := hrel
  have vv := Eh hle2
  have uY := Eh hs
  clear hle2 hs vg
  by_cases hi8 : i < 8
  rotate_left
  ·have hii : ¬ ((i : Int) < 8) := by omega
   go_wp2_with fail
   go_ret
   exact ⟨rfl, xi.out D2 _ (vz.out.trans vv.out) uY.out.drop⟩
  have hii : (i : Int) < 8 := by omega
  have Bn := Eh (CT.out.mono vv.out)
  have yJ := Eh (kF (i : Int) (jh HF.out.sc (by decide) i) uY.out)
  clear uY
  go_upto_region 11 with (first | (go_at_call 25; refine yJ.out.mono ?_; rintro e14 w14 ⟨z1, D3, rfl, hz1, hle3, hok1, hs14⟩; have wl := Eh hle3; have wh := Eh ((bK hs14 hle3).alloc z1.cells.toArray tCl); clear hz1 hok1 hs14 hle3 yJ) | (refine ax rfl _ _ _ rfl z1.cells _ _ rfl rfl (by kernel_rfl) rfl (ClmE.one _) ?_))
  obtain ⟨W15, hW15, hs15⟩ := Sat.hide wh.out
  rw [← hW15]
  have vR := Eh hs15.drop
  clear hW15 hs15 wh
  have yS := Eh (gu (i : Int) (Bn.out.mono wl.out) (by have := HF.out.len; omega) vR.out)
  have Ck := Eh (qB HF.out.sound.stuck (i : Int))
  obtain ⟨os, hos⟩ : ∃ os, cC (db RC m.q (i : Int)) = os := ⟨_, rfl⟩
  obtain ⟨wb, hwb⟩ : ∃ wb, (aP m.q (i : Int)).2 = wb := ⟨_, rfl⟩
  rw [hos] at yS Ck
  rw [hwb] at Ck ⊢
  obtain ⟨n, hn⟩ : ∃ n, os.length = n := ⟨_, rfl⟩
  rw [hn] at Ck
  have DW := Eh hn
  clear hos hwb vR hn
  have hcase : (wb = true ∧ (n : Int) > 0 ∧ 0 < n) ∨ (wb = false ∧ ¬ (n : Int) > 0 ∧ ¬ 0 < n) := by
   rw [Ck.out]
   by_cases h : 0 < n
   ·exact .inl ⟨by simp [h], by omega, h⟩
   ·exact .inr ⟨by simp [h], by omega, h⟩
  rcases hcase with ⟨rfl, hnn, hn2⟩ | ⟨rfl, hnn, hn2⟩
  all_goals
   go_upto_region 13 with (go_at_call 28; refine yS.out.mono ?_; rintro e16 w16 ⟨u, rfl, hs16⟩; obtain ⟨ua, uc, rfl⟩ := hs16.own_shape; rw [DW.out]; have vS := Eh hs16.drop; clear hs16 yS)
   clear hnn hn2
   have Du := Eh (gy (i : Int) (by have := HF.out.len; omega) (HF.out.sm (by decide)) vS.out)
   clear vS
   go_upto_region 14 with (go_at_call 17; refine Du.out.mono ?_; rintro e17 w17 ⟨v17, D4, rfl, hle4, hs17⟩; have vL := Eh ((vv.out.trans wl.out).trans hle4); have vO := Eh ((bK hs17.swap hle4).swap); clear hs17 hle4 Du)
   obtain ⟨cs, hcm, hco, hs18⟩ := dE vO.out
   obtain ⟨a5, c5, rfl⟩ := hs18.own_shape
   have hcl := (hs18.own 0 rfl).rd.2.1
   unfold maxLen at hcl
   have yh := Eh hcm
   have As := Eh hco
   have wW := Eh hs18.swap
   clear hcm hco hs18 vO
   go_wp2_with fail
   go_loopw [11] (fun ii wr => ∃ (k : Nat) (D5 : PH), ii = .int .i64 k ∧ i < k ∧ k ≤ 8 ∧ PH.le D4 D5 ∧ Sat W D5 wr [cd D5 L ts rm m, gx (.slice a5 cs.length c5) cs]) (fun ii _ => 8 - (intOf ii).toNat)
   case atStart => exact ⟨i + 1, D4, by go_num, by omega, by omega, PH.le.refl _, wW.out⟩
   case round =>
    obtain ⟨k, D5, rfl, hik, hk8, hle5, hs⟩ := hrel
    have vC := Eh hle5
    have wK := Eh hs
    clear hle5 hs wW
    by_cases hk : k < 8
    rotate_left
    ·have hkk : ¬ ((k : Int) < 8) := by omega
     go_wp2_with fail
     go_roundw
     case rel => exact ⟨i + 1, D5, by go_num, by omega, vL.out.trans vC.out, wK.out.swap.drop⟩
     case measure => simp [intOf]; omega
    have hkk : (k : Int) < 8 := by omega
    have Dv := Eh (gy (k : Int) (by have := HF.out.len; omega) (HF.out.sm (by decide)) wK.out)
    clear wK
    go_upto_region 18 with (go_at_call 17; refine Dv.out.mono ?_; rintro e20 w20 ⟨v20, D6, rfl, hle6, hs20⟩; have vF := Eh hle6; have vq := Eh ((bK hs20.swap hle6).swap); clear hs20 hle6 Dv)
    obtain ⟨ds, hdm, hdo, hs21⟩ := dE vq.out
    obtain ⟨a6, c6, rfl⟩ := hs21.own_shape
    have hdl := (hs21.own 0 rfl).rd.2.1
    unfold maxLen at hdl
    have DX := Eh (fun (x y : ClmE) (hx : x ∈ cs) (hy : y ∈ ds) => tg HF.out.sound.apart HF.out.sc (show (i : Int) ≠ (k : Int) by omega) yh.out hdm hx hy)
    have CU := Eh (show ∀ x ∈ cs, ClOk D6 x from fun x hx => ((As.out x hx).mono vC.out).mono vF.out)
    have DY := Eh hdo
    have xy := Eh (show Sat W D6 w20 [gx (.slice a6 ds.length c6) ds, gx (.slice a5 cs.length c5) cs, cd D6 L ts rm m] from hs21.front 2 rfl |>.front 1 rfl)
    clear hdm hdo hs21 vq
    go_wp2_with fail
    go_loopw [13] (fun ii wr => ∃ p : Nat, ii = .int .i64 p ∧ p ≤ cs.length ∧ Sat W D6 wr [gx (.slice a6 ds.length c6) ds, gx (.slice a5 cs.length c5) cs, cd D6 L ts rm m]) (fun ii _ => cs.length - (intOf ii).toNat)
    case atStart => exact ⟨0, rfl, by omega, xy.out⟩
    case round =>
     obtain ⟨p, rfl, hp, hs⟩ := hrel
     have vu := Eh hs
     clear hs xy
     by_cases hpl : p < cs.length
     rotate_left
     ·have hpi : ¬ ((p : Int) < (cs.length : Int)) := by omega
      go_wp2_with fail
      go_roundw
      case rel => exact ⟨k + 1, D6, by go_num, by omega, by omega, vC.out.trans vF.out, vu.out.drop.swap⟩
      case measure => simp [intOf]; omega
     have hpi : (p : Int) < (cs.length : Int) := by omega
     obtain ⟨x, hx⟩ : ∃ x, cs[p]? = some x := ⟨cs[p]'hpl, List.getElem?_eq_getElem _⟩
     have HX := Eh hx
     clear hx
     go_wp2_with fail
     go_loopw [14] (fun ii wr => ∃ p2 : Nat, ii = .int .i64 p2 ∧ p2 ≤ ds.length ∧ Sat W D6 wr [gx (.slice a6 ds.length c6) ds, gx (.slice a5 cs.length c5) cs, cd D6 L ts rm m]) (fun ii _ => ds.length - (intOf ii).toNat)
     case atStart => exact ⟨0, rfl, by omega, vu.out⟩
     case round =>
      obtain ⟨p2, rfl, hp2, hs⟩ := hrel
      have wk := Eh hs
      clear hs vu
      by_cases hpl2 : p2 < ds.length
      rotate_left
      ·have hpi2 : ¬ ((p2 : Int) < (ds.length : Int)) := by omega
       go_wp2_with fail
       go_roundw
       case rel => exact ⟨p + 1, by go_num, by omega, wk.out⟩
       case measure => simp [intOf]; omega
      have hpi2 : (p2 : Int) < (ds.length : Int) := by omega
      obtain ⟨y, hy⟩ : ∃ y, ds[p2]? = some y := ⟨ds[p2]'hpl2, List.getElem?_eq_getElem _⟩
      obtain ⟨g5, o5, hg5, hr5⟩ := aF ClmE.len (wk.out.own 1 rfl).rd HX.out rfl
      obtain ⟨g6, o6, hg6, hr6⟩ := aF ClmE.len (wk.out.own 0 rfl).rd hy rfl
      obtain ⟨hcf, hfx, hfy⟩ := DX.out x y (List.mem_of_getElem? HX.out) (List.mem_of_getElem? hy)
      have wS := Eh (lr (w := wr.drew) ((CU.out x (List.mem_of_getElem? HX.out)).rd wk.out.drew) ((DY.out y (List.mem_of_getElem? hy)).rd wk.out.drew) hfx hfy)
      rw [hcf] at wS
      cases hg5
      cases hg6
      have vt := Eh (az (w := wr.drew) hr5)
      have vH := Eh (az (w := wr.drew) hr6)
      clear hcf hfx hfy hr5 hr6 hy
      go_upto_region 24 with fail
      refine ag [(0, false, 8), (1, false, 8), (2, false, 8), (3, false, 8), (4, false, 8), (5, false, 8), (6, false, 8), (7, false, 8), (8, true, 0)] (by kernel_rfl) (by kernel_rfl) ?_
      iterate 8 (refine af rfl rfl (fun K hK => ?_); (first | ((refine aj _ _ rfl _ _ rfl _ vt.out ?_); go_simp) | ((refine aj _ _ rfl _ _ rfl _ vH.out ?_); go_simp) | go_simp); refine hK _ ?_; clear hK K)
      refine al rfl ?_
      refine aw rfl (fun K hK => ?_)
      go_simp
      refine wS.out.mono ?_
      rintro eb wb ⟨rfl, hkb⟩
      have xV := Eh (wk.out.drew.kept hkb)
      clear hkb wS vt vH wk
      refine hK _ _ ?_
      clear hK K
      refine wpList_nil ?_
      refine And.intro ?_ ?_
      ·go_simp
      refine ar ?_
      go_wp2_with fail
      go_roundw
      case rel => exact ⟨p2 + 1, by go_num, by omega, xV.out⟩
      case measure => simp [intOf]; omega
end Go.Proofs.YtgljdkjepdknnaaGreatDoor
