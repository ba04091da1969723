/- LocksPlays (ratlinelaw11): locks under any script are what is told. (printed by genlkplays.py) -/
import Derived.Test.YtgljdkjepdknnaaGreatDoorML46
import Derived.Test.YtgljdkjepdknnaaGreatDoorML43
import Derived.Test.YtgljdkjepdknnaaGreatDoorML47
import Derived.Test.YtgljdkjepdknnaaGreatDoorML26
import Derived.Test.YtgljdkjepdknnaaGreatDoorML29
import Derived.Test.YtgljdkjepdknnaaGreatDoorML48
set_option maxHeartbeats 64000000
namespace Go.Proofs.YtgljdkjepdknnaaGreatDoor
open Go.ChangeShapes Go.WideShapes Go.ChangeAt Go.RowKit
set_option maxRecDepth 100000
set_option linter.unusedSimpArgs false
theorem nd {W : World} {tv av : Value} {ts : List (List Bool)} {acts : List ActE} (room : Int) (tb : EnvD (cw W)) (ht : TblsRd W tv ts) (hz : ∀ c ∈ ts, c.length ≤ 140737488355328) (hv : kT W av acts) :
  Calls Tryz.prog 7 #[tv, .int .i64 room, av] W fun r w' => r = .returned (.bool true) ∧ Kept (fun _ => False) W w' := by
 obtain ⟨D, hD⟩ : ∃ D, cw W = D := ⟨_, rfl⟩
 have hta : TblsAt D tv ts := by rw [← hD]; exact TblsAt.of_rd ht
 have HV := Eh (show ActsD D av acts by rw [← hD]; exact ActsD.of_rd hv)
 have hE : EnvD D := by rw [← hD]; exact tb
 have HE := Eh hE
 have zp := Eh (jF hE (show Sat W D W [] by rw [← hD]; exact Sat.start W))
 have xi := Eh (show ∀ (D' : PH) (w' : World), PH.le D D' → Sat W D' w' [] → Kept (fun _ => False) W w' from fun D' w' hle hs => hs.end_ (by rw [hD]; exact hle))
 obtain ⟨a, c, rfl, hN⟩ := HV.out.shape
 obtain ⟨us, _, _, hrd, _⟩ := id hta
 obtain ⟨ta, tc, rfl⟩ := hrd.shape
 have hml := hrd.2.1
 unfold maxLen at hml
 have HT := Eh hta
 have HZ := Eh hz
 obtain ⟨N, hNN⟩ : ∃ N, ts.length = N := ⟨_, rfl⟩
 have ym := Eh hNN
 clear hv tb hD ht hta hrd hE hz
 by_cases h5 : N ≤ 5
 rotate_left
 ·have h5i : (N : Int) > 5 := by omega
  rw [hNN]
  clear hNN
  go_enter Tryz.func7, Tryz.ntmps7
  go_wp2_with (go_at_call 11; refine zp.out.mono ?_; rintro e1 w1 ⟨rfl, hs1⟩; have uX := Eh hs1; clear hs1 zp)
  go_ret
  exact ⟨rfl, xi.out D _ (PH.le.refl _) uX.out⟩
 have h5i : ¬ (N : Int) > 5 := by omega
 obtain ⟨rm, hrm⟩ : ∃ rm, rm = min (max room 0) 200 := ⟨_, rfl⟩
 have AE := Eh hrm
 have AK := Eh (show TblsAt D (.slice ta N tc) ts by rw [← hNN]; exact HT.out)
 rw [hNN]
 clear hNN hrm HT hml
 go_enter Tryz.func7, Tryz.ntmps7
 go_upto_region 6 with (go_at_call 11; refine zp.out.mono ?_; rintro e1 w1 ⟨rfl, hs1⟩; have uX := Eh hs1; clear hs1 zp)
 clear h5i
 have xT := Eh (uz room AK.out (by have := ym.out; omega) HZ.out uX.out)
 rw [← AE.out] at xT
 clear uX
 go_upto_region 7 with (go_at_call 12; refine xT.out.mono ?_; rintro e2 w2 ⟨L, D2, rfl, hle2, hs2⟩; have vv := Eh hle2; have vg := Eh hs2; clear hle2 hs2 xT)
 have yM := Eh (re room (AK.out.mono vv.out) vg.out)
 rw [← AE.out] at yM
 clear vg
 go_upto_region 8 with (first | (go_at_call 22; refine yM.out.mono ?_; rintro e3 w3 ⟨v3, D3, rfl, hle3, hd3, hs3⟩; obtain ⟨y0, y1, y2, y3, y4, rfl, hy⟩ := eY hd3; have wl := Eh (vv.out.trans hle3); have B0 := Eh hd3; have HY := Eh hy; have uY := Eh (hs3.alloc #[y0, y1, y2, y3, y4] aQ); have Ar := Eh hle3; clear hle3 hd3 hy hs3 yM) | (refine ax rfl _ _ _ rfl [y0, y1, y2, y3, y4] _ _ rfl rfl (by kernel_rfl) rfl HY.out ?_))
 obtain ⟨W4, hW4, hs4⟩ := Sat.hide uY.out
 rw [← hW4]
 clear hW4 uY
 generalize w3.heap.size = b9 at hs4 ⊢
 have vh := Eh (show Sat W D3 W4 [blk b9 #[y0, y1, y2, y3, y4] aQ, cd D3 L ts rm ⟨⟨[], []⟩, []⟩] from (bK hs4.swap Ar.out).swap)
 clear hs4 Ar
 go_wp2_with fail
 go_loopw [10] (fun ii wr => ∃ (j : Nat) (D1 : PH) (m : LkM) (d : DocM) (y0 y1 y2 y3 y4 : Value), ii = .int .i64 j ∧ j ≤ acts.length ∧ j ≤ 40 ∧ PH.le D D1 ∧ LkBoth ts rm j m d ∧ DocD D1 (.agg #[y0, y1, y2, y3, y4]) d ∧ Sat W D1 wr [blk b9 #[y0, y1, y2, y3, y4] aQ, cd D1 L ts rm m]) (fun ii _ => 40 - (intOf ii).toNat)
 case atStart => exact ⟨0, D3, _, _, y0, y1, y2, y3, y4, rfl, Nat.zero_le _, by omega, wl.out, pi ts rm, B0.out, vh.out⟩
 case round =>
  obtain ⟨j, D1, m, d, y0, y1, y2, y3, y4, rfl, hj, hj40, hle, hok, hd, hs⟩ := hrel
  have vz := Eh hle
  have vP := Eh hok
  have HD := Eh hd
  have HS := Eh hs
  clear hle hok hd hs vh B0 HY wl
  by_cases hlt : j < acts.length ∧ j < 40
  rotate_left
  ·by_cases h1 : j < acts.length
   ·have hji : (j : Int) < (acts.length : Int) := by omega
    have hji2 : ¬ ((j : Int) < 40) := by omega
    go_wp2_with fail
    go_ret
    exact ⟨rfl, xi.out D1 _ vz.out HS.out.drop.drop⟩
   ·have hji : ¬ ((j : Int) < (acts.length : Int)) := by omega
    go_wp2_with fail
    go_ret
    exact ⟨rfl, xi.out D1 _ vz.out HS.out.drop.drop⟩
  have hji : (j : Int) < (acts.length : Int) := by omega
  have hji2 : (j : Int) < 40 := by omega
  obtain ⟨x, hx⟩ : ∃ x, acts[j]? = some x := ⟨acts[j]'hlt.1, List.getElem?_eq_getElem _⟩
  obtain ⟨g, og, hg, hr, hr2, hxo, hfit⟩ := oF (HV.out.mono vz.out) HS.out rfl hx
  subst hg
  have HX := Eh hx
  have zn := Eh hxo
  have yg := Eh hfit
  have HL := Eh (az hr2)
  have xu := Eh (qu (hxo.rd HS.out))
  clear hx hr hr2 hxo hfit
  cases hfew : fK x.x.c
  ·rw [hfew] at xu
   clear hfew
   go_wp2_with (first | (refine ai rfl _ _ rfl _ _ rfl _ HL.out ?_) | (go_at_call 23; refine xu.out.mono ?_; rintro e5 w5 ⟨rfl, hk5⟩; have uZ := Eh (HS.out.kept hk5); clear hk5 HS xu HL))
   go_ret
   exact ⟨rfl, xi.out D1 _ vz.out uZ.out.drop.drop⟩
  rw [hfew] at xu
  have HF := Eh hfew
  clear hfew
  have yN := Eh (uK vP.out x yg.out HF.out)
  obtain ⟨R, hR⟩ : ∃ R, lz ts rm m d x = R := ⟨_, rfl⟩
  have HR := Eh hR
  rw [hR] at yN
  obtain ⟨m2, d2, rb⟩ := R
  obtain rfl : rb = true := yN.out.2
  have vm := Eh (show LkBoth ts rm (j + 1) m2 d2 from yN.out.1)
  clear hR yN
  go_upto_region 14 with (first | (refine ai rfl _ _ rfl _ _ rfl _ HL.out ?_) | (go_at_call 23; refine xu.out.mono ?_; rintro e5 w5 ⟨rfl, hk5⟩; have uZ := Eh (HS.out.kept hk5); clear hk5 HS xu HL))
  have vi := Eh uZ.out.drew
  obtain ⟨g2, og2, hg2, hr, _⟩ := oF (HV.out.mono vz.out) vi.out rfl HX.out
  cases hg2
  have Ad := Eh (mX hr)
  have vx := Eh (aG (vi.out.blk 0 rfl))
  clear hr
  refine nJ (.rd 0 6 (.rd 1 6 (.rd 2 6 (.rd 3 6 (.rd 4 6 (.rd 5 6 (.ef 6 (.rd 7 11 (.rd 8 11 (.rd 9 999 (.ef 10 (.ef 11 (.rd 12 999 .nil) .nil) .nil)))) (.ef 10 (.ef 6 (.rd 7 11 (.rd 8 11 (.rd 9 999 (.ef 11 (.rd 12 999 .nil) .nil)))) .nil) .nil)))))))) [6, 10, 11] (by kernel_rfl) (by kernel_rfl) ?_
  iterate 6 (refine fT rfl rfl (fun K hK => ?_); (first | ((refine aj _ _ rfl _ _ rfl _ vx.out ?_); go_simp) | ((refine aj _ _ rfl _ _ rfl _ Ad.out ?_); go_simp) | go_simp); refine hK _ ?_; clear hK K)
  refine t7 rfl rfl ?_ ?_
  focus
   skip
   have yM := Eh (pD x (HE.out.mono vz.out) HD.out vP.out.ok (by omega) zn.out yg.out HF.out vi.out.swap)
   rw [HR.out] at yM
   refine aw rfl (fun K hK => ?_)
   go_simp
   refine yM.out.mono ?_
   rintro e6 w6 ⟨v6, D6, rfl, hle6, hd6, hs6⟩
   obtain ⟨z0, z1, z2, z3, z4, rfl, hz5⟩ := eY hd6
   have xC := Eh hz5
   have yb := Eh (show DocD D6 (.agg #[z0, z1, z2, z3, z4]) d2 from hd6)
   have vF := Eh hle6
   have vn := Eh hs6
   clear hle6 hs6 hd6 hz5 yM Ad vx vi uZ
   refine hK _ _ ?_
   clear hK K
   refine wpList_nil ?_
   refine And.intro ?_ ?_
   ·go_simp
   iterate 3 (refine fT rfl rfl (fun K hK => ?_); go_simp; refine hK _ ?_; clear hK K)
   refine jb rfl ?_
   refine wpList_plain rfl (fun K hK => ?_)
   go_simp
   refine hK _ _ ?_
   clear hK K
   refine wpList_nil ?_
   obtain ⟨W7, hW7, hs7⟩ := Sat.hide (vn.out.alloc cp aQ)
   rw [← hW7]
   generalize w6.heap.size = bn at hs7 ⊢
   have vw := Eh (show Sat W D6 W7 [blk bn cp aQ, cd D6 L ts rm m2, blk b9 #[y0, y1, y2, y3, y4] aQ] from hs7)
   clear hW7 hs7 vn
   refine And.intro ?_ ?_
   ·go_simp
   refine jb rfl ?_
   refine ap rfl _ _ _ rfl aQ bn rfl [z0, z1, z2, z3, z4] rfl cp vw.out (by kernel_rfl) rfl xC.out ?_
   intro w9 hs9
   have vu := Eh hs9
   clear hs9 vw
   refine wpList_nil ?_
   refine And.intro ?_ ?_
   ·go_simp
   refine fT rfl rfl (fun K hK => ?_); go_simp; refine hK _ ?_; clear hK K
   refine pd ?_
  rotate_left
  focus
   skip
   refine wpList_plain rfl (fun K hK => ?_)
   go_simp
   refine hK _ _ ?_
   clear hK K
   refine wpList_nil ?_
   obtain ⟨W7, hW7, hs7⟩ := Sat.hide ((uZ.out.alloc cp aQ).drew)
   rw [← hW7]
   generalize w5.heap.size = bn at hs7 ⊢
   obtain ⟨g2, og2, hg2, hr, _⟩ := oF (HV.out.mono vz.out) hs7 rfl HX.out
   cases hg2
   clear Ad vx
   have Ad := Eh (mX hr)
   have vx := Eh (aG (hs7.blk 1 rfl))
   have yM := Eh (pD x (HE.out.mono vz.out) HD.out vP.out.ok (by omega) zn.out yg.out HF.out (hs7.front 2 rfl))
   rw [HR.out] at yM
   clear hW7 hs7 uZ vi hr
   refine And.intro ?_ ?_
   ·(refine bC ?_ (bC ?_ (bC ?_ (bC ?_ (bC ?_ (bC ?_ (by unfold dF; trivial)))))) <;> first | exact ip _ _ rfl _ _ rfl [_, _, _, _, _] vx.out rfl | exact ip _ _ rfl _ _ rfl _ Ad.out rfl | go_simp)
   refine jb rfl ?_
   refine aw rfl (fun K hK => ?_)
   go_simp
   refine yM.out.mono ?_
   rintro e6 w6 ⟨v6, D6, rfl, hle6, hd6, hs6⟩
   obtain ⟨z0, z1, z2, z3, z4, rfl, hz5⟩ := eY hd6
   have xC := Eh hz5
   have yb := Eh (show DocD D6 (.agg #[z0, z1, z2, z3, z4]) d2 from hd6)
   have vF := Eh hle6
   have vw := Eh (show Sat W D6 w6 [blk bn cp aQ, cd D6 L ts rm m2, blk b9 #[y0, y1, y2, y3, y4] aQ] from hs6.swap)
   clear hle6 hs6 hd6 hz5 yM Ad vx
   refine hK _ _ ?_
   clear hK K
   refine wpList_nil ?_
   refine And.intro ?_ ?_
   ·go_simp
   iterate 3 (refine fT rfl rfl (fun K hK => ?_); go_simp; refine hK _ ?_; clear hK K)
   refine jb rfl ?_
   refine ap rfl _ _ _ rfl aQ bn rfl [z0, z1, z2, z3, z4] rfl cp vw.out (by kernel_rfl) rfl xC.out ?_
   intro w9 hs9
   have vu := Eh hs9
   clear hs9 vw
   refine wpList_nil ?_
   refine And.intro ?_ ?_
   ·go_simp
   refine fT rfl rfl (fun K hK => ?_); go_simp; refine hK _ ?_; clear hK K
   refine pd ?_
  all_goals
   clear vP HD HR
   have hlen1 := vm.out.ok.q.len
   have hlen2 := vm.out.ok.dq.len
   have Dx := Eh vm.out.same.q
   have xz := Eh (kt yb.out)
   have vK := Eh (aG (vu.out.blk 0 rfl))
   have wk := Eh (vu.out.front 2 rfl)
   clear vu
   go_upto_region 16 with (first | (refine ai rfl _ _ rfl _ _ rfl [_, _, _, _, _] vK.out ?_) | (refine ap rfl _ _ _ rfl aQ b9 rfl [z0, z1, z2, z3, z4] rfl _ wk.out (by kernel_rfl) rfl xC.out ?_; intro w11 hs11; have xV := Eh hs11.swap.drop; clear hs11 wk vK))
   have ze := Eh xV.out.drew
   have vx := Eh (aG (ze.out.blk 0 rfl))
   have vr := Eh (Len_L (m := m2) (by omega) ze.out.swap)
   obtain ⟨ln, hln⟩ : ∃ ln, m2.q.held.length + m2.q.waits.length = ln := ⟨_, rfl⟩
   have zJ := Eh (show gd d2 = ln by unfold gd; rw [Dx.out]; exact hln)
   rw [hln] at vr
   have hln2 : ln ≤ 1000000 := by omega
   clear xV hln
   refine ag [(0, false, 4), (1, false, 4), (2, false, 4), (3, false, 4), (5, false, 6), (4, true, 0), (6, true, 0), (7, false, 999), (8, false, 999)] (by kernel_rfl) (by kernel_rfl) ?_
   iterate 3 (refine af rfl rfl (fun K hK => ?_); (first | ((refine aj _ _ rfl _ _ rfl [_,_,_,_,_] vx.out ?_); go_simp) | go_simp); refine hK _ ?_; clear hK K)
   iterate 2 (first | (refine aq rfl rfl ?_; simp only [Act.put, Ei, Ej, Ek, El, Em, En]) | (refine am rfl rfl (fun K hK => ?_); (first | ((refine aj _ _ rfl _ _ rfl [_,_,_,_,_] vx.out ?_); go_simp) | go_simp); refine hK _ ?_; clear hK K))
   refine al rfl ?_
   refine aw rfl (fun K hK => ?_)
   go_simp
   refine vr.out.mono ?_
   rintro e12 w12 ⟨rfl, hk12⟩
   have xD := Eh (ze.out.kept hk12)
   have Bb := Eh (qY yb.out (by rw [zJ.out]; omega) xD.out)
   rw [zJ.out] at Bb
   clear hk12 ze vr
   clear vx
   have vx := Eh (aG (xD.out.blk 0 rfl))
   refine hK _ _ ?_
   clear hK K
   refine wpList_nil ?_
   refine And.intro ?_ ?_
   ·(refine bC ?_ (by unfold dF; trivial) <;> first | exact ip _ _ rfl _ _ rfl [_, _, _, _, _] vx.out rfl | go_simp)
   refine al rfl ?_
   refine aw rfl (fun K hK => ?_)
   go_simp
   refine Bb.out.mono ?_
   rintro e13 w13 ⟨rfl, hs13⟩
   have AZ := Eh hs13
   clear hs13 xD Bb vx
   refine hK _ _ ?_
   clear hK K
   refine wpList_nil ?_
   refine And.intro ?_ ?_
   ·go_simp
   first | (refine aq rfl rfl ?_; simp only [Act.put, Ei, Ej, Ek, El, Em, En]) | (refine am rfl rfl (fun K hK => ?_); (first | ((refine aj _ _ rfl _ _ rfl [_,_,_,_,_] vx.out ?_); go_simp) | go_simp); refine hK _ ?_; clear hK K)
   refine af rfl rfl (fun K hK => ?_); (first | ((refine aj _ _ rfl _ _ rfl [_,_,_,_,_] vx.out ?_); go_simp) | go_simp); refine hK _ ?_; clear hK K
   refine ar ?_
   have vB := Eh (vz.out.trans vF.out)
   go_wp2_with fail
   go_loopw [14] (fun ii wr => ∃ (k : Nat) (D2 : PH), ii = .int .i64 k ∧ k ≤ 8 ∧ PH.le D6 D2 ∧ Sat W D2 wr [blk b9 #[z0, z1, z2, z3, z4] aQ, cd D2 L ts rm m2]) (fun ii _ => 8 - (intOf ii).toNat)
   case atStart => exact ⟨0, D6, rfl, by omega, PH.le.refl _, AZ.out⟩
   case round =>
    obtain ⟨k, D2, rfl, hk8, hle2, hs13⟩ := hrel
    have vv := Eh hle2
    have vM := Eh hs13
    clear hle2 hs13 AZ
    by_cases hk : k < 8
    rotate_left
    ·have hkk : ¬ ((k : Int) < 8) := by omega
     go_wp2_with fail
     go_roundw
     case rel => exact ⟨j + 1, D2, m2, d2, z0, z1, z2, z3, z4, by go_num, by omega, by omega, vB.out.trans vv.out, vm.out, yb.out.mono vv.out, vM.out⟩
     case measure => simp [intOf]; omega
    have hkk : (k : Int) < 8 := by omega
    have Bn := Eh (HE.out.mono (vB.out.trans vv.out))
    have Ao := Eh (show QueD D2 (.agg #[z2, z3]) m2.q by rw [← Dx.out]; exact xz.out.q.mono vv.out)
    have yJ := Eh (kF (k : Int) (jh vm.out.ok.q (by omega) (k : Int)) vM.out.swap)
    clear vM
    go_upto_region 22 with (first | (go_at_call 25; refine yJ.out.mono ?_; rintro e14 w14 ⟨y, D7, rfl, hz1, hle7, hok1, hs14⟩; have Ec := Eh hz1; have CY := Eh hok1; have B5 := Eh hle7; have wh := Eh ((bK hs14 hle7).alloc y.cells.toArray tCl); clear hz1 hok1 hle7 hs14 yJ) | (refine ax rfl _ _ _ rfl y.cells _ _ rfl rfl (by kernel_rfl) rfl (ClmE.one _) ?_))
    obtain ⟨W15, hW15, hs15⟩ := Sat.hide wh.out
    rw [← hW15]
    generalize w14.heap.size = bz1 at hs15 ⊢
    have vR := Eh hs15
    obtain ⟨q0, q1, q2, q3, q4, qf⟩ := aT (hs15.blk 2 rfl)
    have Dy := Eh (eq (k : Int) (Ao.out.mono B5.out) hs15)
    clear hW15 hs15 wh
    go_upto_region 23 with (first | (go_at_call 32; refine Dy.out.mono ?_; rintro e16 w16 ⟨y', rfl, hz2, hok2, _, hs16⟩; have Ed := Eh (Ec.out.trans hz2.symm); have CZ := Eh hok2; have vS := Eh (hs16.alloc y'.cells.toArray tCl); clear hz2 hok2 hs16 Dy vR q0 q1 q2 q3 q4 qf) | (refine ax rfl _ _ _ rfl y'.cells _ _ rfl rfl (by kernel_rfl) rfl (ClmE.one _) ?_))
    obtain ⟨W17, hW17, hs17⟩ := Sat.hide vS.out
    rw [← hW17]
    generalize w16.heap.size = bz2 at hs17 ⊢
    have vO := Eh hs17.drew
    have vG := Eh (az (w := W17.drew) (ak (hs17.drew.blk 1 rfl)))
    have vV := Eh (az (w := W17.drew) (ak (hs17.drew.blk 0 rfl)))
    have B4 := Eh (mI (w := W17.drew) (CY.out.rd hs17.drew) (CZ.out.rd hs17.drew) Ed.out)
    obtain ⟨q0, q1, q2, q3, q4, qf⟩ := aT (hs17.drew.blk 3 rfl)
    clear hW17 hs17 vS
    generalize (aP m2.q (k : Int)).2 = bw
    refine ag [(0, false, 6), (1, false, 6), (2, false, 6), (3, false, 6), (4, false, 6), (5, false, 6), (6, true, 0), (7, false, 12), (8, false, 12), (9, false, 12), (10, false, 12), (11, false, 12), (13, false, 16), (14, false, 16), (15, false, 16), (12, true, 0), (16, true, 0), (17, true, 0), (18, false, 23), (19, false, 23), (20, false, 23), (21, false, 23), (22, false, 23), (24, false, 27), (25, false, 27), (26, false, 27), (23, true, 0), (27, true, 0), (28, true, 0), (29, false, 999), (30, false, 999)] (by kernel_rfl) (by kernel_rfl) ?_
    iterate 4 (refine af rfl rfl (fun K hK => ?_); (first | ((refine aj _ _ rfl _ _ rfl _ vG.out ?_); go_simp) | ((refine aj _ _ rfl _ _ rfl _ vV.out ?_); go_simp) | go_simp); refine hK _ ?_; clear hK K)
    iterate 2 (first | (refine aq rfl rfl ?_; simp only [Act.put, Ei, Ej, Ek, El, Em, En]) | (refine am rfl rfl (fun K hK => ?_); (first | ((refine aj _ _ rfl _ _ rfl _ vG.out ?_); go_simp) | ((refine aj _ _ rfl _ _ rfl _ vV.out ?_); go_simp) | go_simp); refine hK _ ?_; clear hK K))
    refine al rfl ?_
    refine aw rfl (fun K hK => ?_)
    go_simp
    refine B4.out.mono ?_
    rintro ea wa' ⟨rfl, hka⟩
    have hsa := (vO.out.kept hka).front 2 rfl
    clear q0 q1 q2 q3 q4 qf
    obtain ⟨q0, q1, q2, q3, q4, qf⟩ := aT (hsa.blk 3 rfl)
    have Dz := Eh (gy (m := m2) (k : Int) (by omega) (fun e he => (vm.out.ok.q.all.1 e he).sm (by omega)) hsa)
    clear hka hsa vO B4 vG vV
    refine hK _ _ ?_
    clear hK K
    refine wpList_nil ?_
    refine And.intro ?_ ?_
    ·go_simp
    first | (refine aq rfl rfl ?_; simp only [Act.put, Ei, Ej, Ek, El, Em, En]) | (refine am rfl rfl (fun K hK => ?_); (first | ((refine aj _ _ rfl _ _ rfl _ vG.out ?_); go_simp) | ((refine aj _ _ rfl _ _ rfl _ vV.out ?_); go_simp) | go_simp); refine hK _ ?_; clear hK K)
    iterate 2 (refine af rfl rfl (fun K hK => ?_); (first | ((refine aj _ _ rfl _ _ rfl _ vG.out ?_); go_simp) | ((refine aj _ _ rfl _ _ rfl _ vV.out ?_); go_simp) | go_simp); refine hK _ ?_; clear hK K)
    iterate 5 (first | (refine aq rfl rfl ?_; simp only [Act.put, Ei, Ej, Ek, El, Em, En]) | (refine am rfl rfl (fun K hK => ?_); (first | ((refine aj _ _ rfl _ _ rfl _ vG.out ?_); go_simp) | ((refine aj _ _ rfl _ _ rfl _ vV.out ?_); go_simp) | go_simp); refine hK _ ?_; clear hK K))
    refine al rfl ?_
    refine aw rfl (fun K hK => ?_)
    go_simp
    refine Dz.out.mono ?_
    rintro eb wb ⟨vb, D8, rfl, hle8, hsb⟩
    obtain ⟨cs, hcm, hco, hsc⟩ := dE (bK hsb.swap hle8).swap
    obtain ⟨ab, cb, rfl⟩ := hsc.own_shape
    have yh := Eh hcm
    have As := Eh hco
    have Aw := Eh (B5.out.trans hle8)
    clear q0 q1 q2 q3 q4 qf
    obtain ⟨q0, q1, q2, q3, q4, qf⟩ := aT (hsc.blk 4 rfl)
    have yY := Eh (gI (k : Int) (Ao.out.mono Aw.out) (by omega) hsc)
    clear hcm hco hsb hsc hle8 Dz
    refine hK _ _ ?_
    clear hK K
    refine wpList_nil ?_
    refine And.intro ?_ ?_
    ·go_simp
    refine al rfl ?_
    refine aw rfl (fun K hK => ?_)
    go_simp
    refine yY.out.mono ?_
    rintro ec wc' ⟨vc, ds, D9, rfl, hle9, hcd, hdm, hsd⟩
    clear q0 q1 q2 q3 q4 qf
    obtain ⟨q0, q1, q2, q3, q4, qf⟩ := aT (hsd.blk 4 rfl)
    have Ax := Eh hle9
    have wk := Eh (sO ⟨(hsd.own 0 rfl).rd, fun y hy => ((As.out y hy).mono hle9).rd hsd⟩ ⟨hcd.1.rd hsd, fun y hy => (hcd.2 y hy).rd hsd⟩ (yh.out.trans hdm.symm))
    have xD := Eh hsd
    clear hle9 hcd hdm hsd yY
    refine hK _ _ ?_
    clear hK K
    refine wpList_nil ?_
    refine And.intro ?_ ?_
    ·go_simp
    refine al rfl ?_
    refine aw rfl (fun K hK => ?_)
    go_simp
    refine wk.out.mono ?_
    rintro ed wd ⟨rfl, hkd⟩
    have hse := bK ((xD.out.kept hkd).drop) Ax.out
    clear q0 q1 q2 q3 q4 qf
    obtain ⟨q0, q1, q2, q3, q4, qf⟩ := aT (hse.blk 3 rfl)
    have Bi := Eh (gu (m := m2) (k : Int) (Bn.out.mono (Aw.out.trans Ax.out)) (by omega) hse)
    clear hkd hse wk xD
    refine hK _ _ ?_
    clear hK K
    refine wpList_nil ?_
    refine And.intro ?_ ?_
    ·go_simp
    first | (refine aq rfl rfl ?_; simp only [Act.put, Ei, Ej, Ek, El, Em, En]) | (refine am rfl rfl (fun K hK => ?_); (first | ((refine aj _ _ rfl _ _ rfl _ vG.out ?_); go_simp) | ((refine aj _ _ rfl _ _ rfl _ vV.out ?_); go_simp) | go_simp); refine hK _ ?_; clear hK K)
    iterate 2 (refine af rfl rfl (fun K hK => ?_); (first | ((refine aj _ _ rfl _ _ rfl _ vG.out ?_); go_simp) | ((refine aj _ _ rfl _ _ rfl _ vV.out ?_); go_simp) | go_simp); refine hK _ ?_; clear hK K)
    iterate 5 (first | (refine aq rfl rfl ?_; simp only [Act.put, Ei, Ej, Ek, El, Em, En]) | (refine am rfl rfl (fun K hK => ?_); (first | ((refine aj _ _ rfl _ _ rfl _ vG.out ?_); go_simp) | ((refine aj _ _ rfl _ _ rfl _ vV.out ?_); go_simp) | go_simp); refine hK _ ?_; clear hK K))
    refine al rfl ?_
    refine aw rfl (fun K hK => ?_)
    go_simp
    refine Bi.out.mono ?_
    rintro ee we ⟨ve, rfl, hsf⟩
    obtain ⟨ae, ce, rfl⟩ := hsf.own_shape
    clear q0 q1 q2 q3 q4 qf
    obtain ⟨q0, q1, q2, q3, q4, qf⟩ := aT (hsf.blk 4 rfl)
    have yd := Eh (qH (k : Int) vm.out.ok.q.ok (Ao.out.mono (Aw.out.trans Ax.out)) (by omega) hsf)
    clear hsf Bi
    refine hK _ _ ?_
    clear hK K
    refine wpList_nil ?_
    refine And.intro ?_ ?_
    ·go_simp
    refine al rfl ?_
    refine aw rfl (fun K hK => ?_)
    go_simp
    refine yd.out.mono ?_
    rintro ef wf ⟨vf, Da, rfl, hlea, hif, hsg⟩
    clear q0 q1 q2 q3 q4 qf
    have B6 := Eh hlea
    have wX := Eh (jW (r := true) (hsg.own 0 rfl).rd (hif.rd hsg) (by simp))
    have DA := Eh hsg
    clear hlea hif hsg yd
    refine hK _ _ ?_
    clear hK K
    refine wpList_nil ?_
    refine And.intro ?_ ?_
    ·go_simp
    refine al rfl ?_
    refine aw rfl (fun K hK => ?_)
    go_simp
    refine wX.out.mono ?_
    rintro eg wg ⟨rfl, hkg⟩
    have Ee := Eh ((bK ((DA.out.kept hkg).drop.swap.drop.swap.drop) B6.out).swap)
    clear hkg DA wX
    refine hK _ _ ?_
    clear hK K
    refine wpList_nil ?_
    refine And.intro ?_ ?_
    ·go_simp
    first | (refine aq rfl rfl ?_; simp only [Act.put, Ei, Ej, Ek, El, Em, En]) | (refine am rfl rfl (fun K hK => ?_); (first | ((refine aj _ _ rfl _ _ rfl _ vG.out ?_); go_simp) | ((refine aj _ _ rfl _ _ rfl _ vV.out ?_); go_simp) | go_simp); refine hK _ ?_; clear hK K)
    refine af rfl rfl (fun K hK => ?_); (first | ((refine aj _ _ rfl _ _ rfl _ vG.out ?_); go_simp) | ((refine aj _ _ rfl _ _ rfl _ vV.out ?_); go_simp) | go_simp); refine hK _ ?_; clear hK K
    refine ar ?_
    go_wp2_with fail
    go_roundw
    case rel => exact ⟨k + 1, Da, by go_num, by omega, (vv.out.trans (Aw.out.trans Ax.out)).trans B6.out, Ee.out⟩
    case measure => simp [intOf]; omega
end Go.Proofs.YtgljdkjepdknnaaGreatDoor
