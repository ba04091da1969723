/- Joined texts: Whether one claim covers another one (claim.Covers). (printed by genconf.py) Whether something is free; how many wait for more. (printed by genq.py) Giving. (printed by genq.py) -/
import Derived.Test.YtgljdkjepdknnaaGreatDoorML10
import Derived.Test.YtgljdkjepdknnaaGreatDoorML7
set_option maxHeartbeats 64000000
namespace Go.Proofs.YtgljdkjepdknnaaGreatDoor
open Go.ChangeShapes Go.WideShapes Go.ChangeAt Go.RowKit
set_option maxRecDepth 100000
set_option linter.unusedSimpArgs false
theorem cov1F {w : World} {b : Nat} {x : ClmE} (hb : w.heap[b]? = some (.cells x.cells.toArray tCl (0, 0))) (hx : RowsRd w (.slice x.ia x.il x.ic) x.imgs) (r : List Val) :
  PredR 119 #[.pointer (some ⟨b, 0, none⟩)] w r (dt x.imgs r) := by
 refine ⟨enters_of Tryz.func119 (by kernel_rfl) rfl, fun W rv hW hr => ?_⟩
 have y6 := (aV (aB hW hb)).2
 have HC := Eh (in_R (hx.kept hW) hr)
 obtain ⟨_, hml, ra, rc, rfl, _⟩ := id hr
 clear hb hx hW hr hml
 show Calls Tryz.prog 119 #[.slice ra r.length rc, .pointer (some ⟨b, 0, none⟩)] W _
 generalize dt x.imgs r = rr at *
 generalize r.length = rl at *
 go_enter Tryz.func119, Tryz.ntmps119
 go_wp2_with (go_at_call 120; refine HC.out.mono ?_; rintro e1 w1 ⟨rfl, hk1⟩; have vd := Eh hk1; clear hk1 HC y6)
 go_ret
 exact ⟨rfl, vd.out⟩
theorem cov_C {w : World} {x y : ClmE} (he : Env w) (hx : RdCl w x) (hy : RdCl w y) : Calls Tryz.prog 76 #[.agg x.cells.toArray, .agg y.cells.toArray] w fun r w' => r = .returned (.bool (RC.cov x.c y.c)) ∧ Kept (fun _ => False) w w' := by
 obtain ⟨W1, hW1, hk1, hb1, hb2⟩ := dV w x.cells.toArray y.cells.toArray tCl tCl
 have vt := Eh (az (ak hb1))
 have vH := Eh (az (ak hb2))
 have uW := Eh hW1
 have vd := Eh hk1
 have vj := Eh hb1
 have vm := Eh hb2
 have HX := Eh (hx.kept hk1)
 have HY := Eh (hy.kept hk1)
 have HE := Eh (he.kept hk1)
 have HP := Eh (show RC.cov x.c y.c = (RC.same x.c y.c && aO x.mode y.mode && y.imgs.all (fun r => dt x.imgs r)) from rfl)
 have vN := Eh (fy (hx.kept hk1) (hy.kept hk1))
 rw [HP.out]
 clear hW1 hk1 hb1 hb2 hx hy he HP
 generalize RC.same x.c y.c = rs at *
 cases rs
 ·rw [Bool.false_and, Bool.false_and]
  go_enter Tryz.func76, Tryz.ntmps76
  go_upto_region 1 with fail
  rw [← uW.out]
  clear uW
  generalize w.heap.size + 1 = b2 at vm vH ⊢
  generalize w.heap.size = b1 at vj vt ⊢
  go_wp2_with (first | (refine ai rfl _ _ rfl _ _ rfl _ vt.out ?_) | (refine ai rfl _ _ rfl _ _ rfl _ vH.out ?_) | (go_at_call 74; refine vN.out.mono ?_; rintro r3 w3 ⟨rfl, hk3⟩; have vD := Eh (vd.out.trans hk3 (fun _ h => h.elim)); clear hk3 vN vt vH))
  go_ret
  exact ⟨rfl, vD.out⟩
 ·cases hc : aO x.mode y.mode
  ·rw [Bool.true_and]
   have yh := Eh hc
   clear hc
   rw [Bool.false_and]
   go_enter Tryz.func76, Tryz.ntmps76
   go_upto_region 1 with fail
   rw [← uW.out]
   clear uW
   generalize w.heap.size + 1 = b2 at vm vH ⊢
   generalize w.heap.size = b1 at vj vt ⊢
   go_wp2_with (first | (refine ai rfl _ _ rfl _ _ rfl _ vt.out ?_) | (refine ai rfl _ _ rfl _ _ rfl _ vH.out ?_) | (go_at_call 74; refine vN.out.mono ?_; rintro r3 w3 ⟨rfl, hk3⟩; have vD := Eh (vd.out.trans hk3 (fun _ h => h.elim)); have vE := Eh (gb yh.out w3 (HE.out.kept hk3).2); have x2 := (aV (aB hk3 vj.out)).1; have y2 := (aV (aB hk3 vm.out)).1; have Bt := Eh hk3; clear hk3 vN vt vH) | (go_at_call 117; refine vE.out.mono ?_; rintro r4 w4 ⟨rfl, hk4⟩; have wy := Eh (vD.out.trans hk4 (fun _ h => h.elim)); clear hk4 vE x2 y2))
   go_ret
   exact ⟨rfl, wy.out⟩
  ·rw [Bool.true_and]
   have yh := Eh hc
   clear hc
   rw [Bool.true_and]
   go_enter Tryz.func76, Tryz.ntmps76
   go_upto_region 1 with fail
   rw [← uW.out]
   clear uW
   generalize w.heap.size + 1 = b2 at vm vH ⊢
   generalize w.heap.size = b1 at vj vt ⊢
   go_wp2_with (first | (refine ai rfl _ _ rfl _ _ rfl _ vt.out ?_) | (refine ai rfl _ _ rfl _ _ rfl _ vH.out ?_) | (go_at_call 74; refine vN.out.mono ?_; rintro r3 w3 ⟨rfl, hk3⟩; have vD := Eh (vd.out.trans hk3 (fun _ h => h.elim)); have vE := Eh (gb yh.out w3 (HE.out.kept hk3).2); have x2 := (aV (aB hk3 vj.out)).1; have y2 := (aV (aB hk3 vm.out)).1; have Bt := Eh hk3; clear hk3 vN vt vH) | (go_at_call 117; refine vE.out.mono ?_; rintro r4 w4 ⟨rfl, hk4⟩; have wy := Eh (vD.out.trans hk4 (fun _ h => h.elim)); have hk14 := Bt.out.trans hk4 (fun _ h => h.elim); have vI := Eh (tr (fun r => dt x.imgs r) (HY.out.1.kept hk14) (fun r _ => cov1F (aB hk14 vj.out) (HX.out.1.kept hk14) r)); clear x2 y2; have y6 := (aV (aB hk14 vm.out)).2; clear hk4 hk14 vE) | (go_at_call 118; refine vI.out.mono ?_; rintro r5 w5 ⟨rfl, hk5⟩; have wN := Eh (wy.out.trans hk5 (fun _ h => h.elim)); clear hk5 vI y6))
   go_ret
   exact ⟨rfl, wN.out⟩
theorem rA {w : World} {be b2 q : Nat} {e : EntE} {hv wv : Value} (h1 : w.heap[be]? = some (.cells (ay e).toArray bg (0, 0))) (h2 : w.heap[b2]? = some (.cells #[.pointer (some ⟨q, 0, none⟩)] 74 (0, 0)))
  (hq : w.heap[q]? = some (.cells #[.func (.func 74) #[] #[], .func (.func 75) #[] #[], .func (.func 76) #[] #[], .func (.func 77) #[] #[], hv, wv] tQC (0, 0))) (he : Env w) (x : EntE)
  (hx : RdCl w x.x) (hc : RdCl w e.x)
  : PredF 168 #[.pointer (some ⟨be, 0, none⟩), .pointer (some ⟨b2, 0, none⟩)] w (ay x) (bd RC e.o (aE e).c (aE x)) := by
 refine ⟨enters_of Tryz.func168 (by kernel_rfl) rfl, fun W hW => ?_⟩
 obtain ⟨W1, hW1, hk1, hbx, hb1⟩ := cm (aB hW h1) (ay x).toArray bg
 have hk2 := hW.trans hk1 (fun _ h => h.elim)
 have uW := Eh hW1
 have vd := Eh hk1
 have vJ := Eh hbx
 have HE := Eh (he.kept hk2)
 obtain ⟨y0, _⟩ := ei hb1
 have yQ := Eh (az (w := W1.drew) (dZ (w := W1.drew) hb1))
 have HX := Eh (hx.kept hk2)
 have HC := Eh (hc.kept hk2)
 obtain ⟨d0, _⟩ := aK (eR hk2 h2)
 obtain ⟨q0, q1, q2, q3, q4, q5, _⟩ := aX (eR hk2 hq)
 clear h1 h2 hq hW hW1 hk1 hk2 hbx hb1 he
 show Calls Tryz.prog 168 #[.agg (ay x).toArray, .pointer (some ⟨be, 0, none⟩), .pointer (some ⟨b2, 0, none⟩)] W _
 by_cases ho : x.o = e.o
 ·have HO := Eh (show bd RC e.o (aE e).c (aE x) = false by unfold bd; simp [ho])
  go_enter Tryz.func168, Tryz.ntmps168
  go_upto_region 1 with fail
  rw [← uW.out]
  clear uW
  generalize W.heap.size = bx at vJ ⊢
  have x0 := (ei vJ.out).1
  rw [ho] at x0
  clear ho
  refine ag [(0, false, 15), (1, false, 15), (2, false, 15), (3, false, 15), (4, false, 15), (5, false, 15), (6, false, 15), (7, false, 15), (8, false, 15), (9, false, 15), (10, false, 15), (11, false, 15), (12, false, 15), (13, false, 15), (14, false, 15), (15, true, 0), (16, false, 999), (17, false, 999)] (by kernel_rfl) (by kernel_rfl) ?_
  iterate 6 (refine af rfl rfl (fun K hK => ?_); go_simp; refine hK _ ?_; clear hK K)
  iterate 9 (first | (refine aq rfl rfl ?_; simp only [Act.put, Ei, Ej, Ek, El, Em, En]) | (refine am rfl rfl (fun K hK => ?_); go_simp; refine hK _ ?_; clear hK K))
  refine al rfl ?_
  refine bO rfl ?_
  simp only [Act.put, Ei, Ej, Ek]
  refine wpList_nil ?_
  refine And.intro ?_ ?_
  ·go_simp
  iterate 2 (refine af rfl rfl (fun K hK => ?_); go_simp; refine hK _ ?_; clear hK K)
  refine ar ?_
  go_wp2_with fail
  go_ret
  exact ⟨by rw [HO.out]; rfl, vd.out.drew⟩
 ·have HO := Eh (show bd RC e.o (aE e).c (aE x) = RC.conf (aE x).c (aE e).c by unfold bd; simp [ho])
  have hne : (x.o == e.o) = false := by simpa using ho
  have hne2 : (x.o != e.o) = true := by simpa using ho
  rw [HO.out]
  go_enter Tryz.func168, Tryz.ntmps168
  go_upto_region 1 with fail
  rw [← uW.out]
  clear uW HO
  generalize W.heap.size = bx at vJ ⊢
  obtain ⟨x0, _⟩ := ei vJ.out
  have vG := Eh (az (w := W1.drew) (dZ (w := W1.drew) vJ.out))
  clear ho
  refine ag [(0, false, 15), (1, false, 15), (2, false, 15), (3, false, 15), (4, false, 15), (5, false, 15), (6, false, 15), (7, false, 15), (8, false, 15), (9, false, 15), (10, false, 15), (11, false, 15), (12, false, 15), (13, false, 15), (14, false, 15), (15, true, 0), (16, false, 999), (17, false, 999)] (by kernel_rfl) (by kernel_rfl) ?_
  iterate 6 (refine af rfl rfl (fun K hK => ?_); (first | ((refine aj _ _ rfl _ _ rfl _ vG.out ?_); go_simp) | ((refine aj _ _ rfl _ _ rfl _ yQ.out ?_); go_simp) | go_simp); refine hK _ ?_; clear hK K)
  iterate 9 (first | (refine aq rfl rfl ?_; simp only [Act.put, Ei, Ej, Ek, El, Em, En]) | (refine am rfl rfl (fun K hK => ?_); (first | ((refine aj _ _ rfl _ _ rfl _ vG.out ?_); go_simp) | ((refine aj _ _ rfl _ _ rfl _ yQ.out ?_); go_simp) | go_simp); refine hK _ ?_; clear hK K))
  refine al rfl ?_
  refine aw rfl (fun K hK => ?_)
  go_simp
  refine (tI HE.out.drew HX.out.drew HC.out.drew).mono ?_
  rintro e2 w2 ⟨rfl, hk⟩
  have vp := Eh (vd.out.drew.trans hk (fun _ h => h.elim))
  clear hk
  refine hK _ _ ?_
  clear hK K
  refine wpList_nil ?_
  refine And.intro ?_ ?_
  ·go_simp
  iterate 2 (refine af rfl rfl (fun K hK => ?_); (first | ((refine aj _ _ rfl _ _ rfl _ vG.out ?_); go_simp) | ((refine aj _ _ rfl _ _ rfl _ yQ.out ?_); go_simp) | go_simp); refine hK _ ?_; clear hK K)
  refine ar ?_
  go_wp2_with fail
  go_ret
  exact ⟨rfl, vp.out⟩
theorem fO {B w : World} {D D' : PH} {l : List HP} {q : Nat} {Q : Qm Clm} {av : Value} {zs : List (EntE)} (e : EntE) (he : Env w)
  (hD : PH.le D' D) (hc : ClOk D e.x) (ha : ∀ x ∈ zs, ClOk D x.x)
  (hrd : Rd w 18 av zs.length (zs.flatMap ay)) (h : Sat B D w (bZ D' q Q :: l)) :
  Calls Tryz.prog 135 #[.pointer (some ⟨q, 0, none⟩), .agg (ay e).toArray, av] w fun r w' => r = .returned (.bool (d7 RC Q e.o (aE e).c (zs.map aE))) ∧ Kept (fun _ => False) w w' := by
 obtain ⟨hv, wv, hs, ws, hr1, hr2, h1⟩ := aU h
 obtain ⟨W1, hW1, hk1, hb1, hb2⟩ := iO w #[.pointer (some ⟨q, 0, none⟩)] (ay e).toArray 74 bg
 have hq1 := eR hk1 (h1.blk 0 rfl)
 have HI := Eh (g9 (fun x => bd RC e.o (aE e).c (aE x)) ((h1.own 1 rfl).rd.kept hk1 (fun _ _ h => h)) (fun x hx => rA hb2 hb1 hq1 (he.kept hk1) x
  (((hr1.2 x hx).mono hD).rd (h1.kept hk1)) (hc.rd (h1.kept hk1))
  ))
 have HJ := Eh (show ∀ W2, Kept (fun _ => False) W1 W2 → _ from fun W2 hk2 => g9 (w := W2) (v := av) (fun x => bd RC e.o (aE e).c (aE x)) ((hrd.kept hk1 (fun _ _ h => h)).kept hk2 (fun _ _ h => h)) (fun x hx => (rA hb2 hb1 hq1 (he.kept hk1) x
  ((ha x hx).rd (h1.kept hk1)) (hc.rd (h1.kept hk1))
  ).kept hk2))
 rw [dY (bd RC e.o (aE e).c), hr1.1] at HI
 have HA := Eh (dY (bd RC e.o (aE e).c) zs)
 rw [HA.out] at HJ
 have HR := Eh (show d7 RC Q e.o (aE e).c (zs.map aE) = (!(Q.held.any (bd RC e.o (aE e).c)) && !((zs.map aE).any (bd RC e.o (aE e).c))) from rfl)
 rw [HR.out]
 have uW := Eh hW1
 have vd := Eh hk1
 have yx := Eh hq1
 obtain ⟨d0, _⟩ := aK hb1
 obtain ⟨_, _, aa, ac, rfl, _⟩ := id hrd
 clear h h1 hr1 hr2 hW1 hk1 hb1 hb2 hq1 HA HR hrd he
 generalize Q.held.any (bd RC e.o (aE e).c) = r1 at *
 generalize (zs.map aE).any (bd RC e.o (aE e).c) = r2 at *
 cases r1
 all_goals
  go_enter Tryz.func135, Tryz.ntmps135
  go_upto_region 2 with fail
  rw [← uW.out]
  clear uW
  generalize w.heap.size + 1 = bx2 at HI HJ ⊢
  generalize w.heap.size = bx1 at HI HJ d0 ⊢
  obtain ⟨c0, c1, c2, c3, c4, c5, cf⟩ := aX yx.out
  go_wp2_with (go_at_call 169; first | (refine HI.out.mono ?_; rintro e1 w1 ⟨rfl, hk2⟩; have vp := Eh hk2; clear hk2 HI c0 c1 c2 c3 c4 c5 cf d0) | (refine (HJ.out _ vp.out).mono ?_; rintro e3 w3 ⟨rfl, hk3⟩; replace vp := Eh (vp.out.trans hk3 (fun _ h => h.elim)); clear hk3 HJ))
  go_ret
  exact ⟨rfl, vd.out.trans vp.out (fun _ h => h.elim)⟩
theorem mores_C {B w : World} {D D' : PH} {l : List HP} {q : Nat} {Q : Qm Clm} (h : Sat B D w (bZ D' q Q :: l)) :
  Calls Tryz.prog 134 #[.pointer (some ⟨q, 0, none⟩)] w fun e w' => e = .returned (.int .i64 (cA Q.waits : Nat)) ∧ w = w' := by
 obtain ⟨hv, wv, hs, ws, hr1, hr2, h1⟩ := aU h
 obtain ⟨_, hml, wa, wc, rfl, hnc, hcm, _⟩ := id (h1.own 2 rfl).rd
 unfold maxLen at hml hcm
 have vk := Eh (h1.own 2 rfl).rd
 obtain ⟨c0, c1, c2, c3, c4, c5, cf⟩ := aX (h1.blk 0 rfl)
 have HW := Eh hr2.1
 clear h h1 hr1 hr2
 have hlm : cA Q.waits ≤ ws.length := by rw [← List.length_map (f := aE), HW.out]; exact fX _
 obtain ⟨N, hN⟩ : ∃ N, ws.length = N := ⟨_, rfl⟩
 have HN := Eh hN
 rw [hN] at vk hml hnc hlm c5
 clear hN
 go_enter Tryz.func134, Tryz.ntmps134
 go_wp2_with fail
 go_loop [3] (fun i => ∃ k : Nat, i = .int .i64 k ∧ k ≤ cA Q.waits) (fun i => N - (intOf i).toNat)
 case atStart => exact ⟨0, rfl, by omega⟩
 case round =>
  obtain ⟨k, rfl, hk⟩ := hrel
  by_cases hlt : k < N
  ·have hi : (k : Int) < (N : Int) := by omega
   obtain ⟨x, hx⟩ : ∃ x, ws[k]? = some x := ⟨ws[k]'(by rw [HN.out]; exact hlt), List.getElem?_eq_getElem _⟩
   obtain ⟨g, o, rfl, hrng⟩ := aF bT vk.out hx HN.out
   have hx2 : Q.waits[k]? = some (aE x) := by rw [← HW.out, List.getElem?_map, hx]; rfl
   have x2 := moreC hrng
   by_cases hkm : k < cA Q.waits
   ·have hm := Eh (show x.more = true from more_lt hkm hx2)
    rw [hm.out] at x2
    clear hx hrng hx2 hm
    go_wp2_with fail
    go_round
    case rel => exact ⟨k + 1, by go_num, by omega⟩
    case measure => simp [intOf]; omega
   ·have hke : k = cA Q.waits := by omega
    have hm := Eh (show x.more = false from qR hke hx2)
    have vW := Eh hke
    rw [hm.out] at x2
    clear hx hrng hx2 hm hke
    go_wp2_with fail
    go_ret
    exact ⟨by rw [← vW.out]; rfl, rfl⟩
  ·have hi : ¬ ((k : Int) < (N : Int)) := by omega
   have vW := Eh (show k = cA Q.waits by omega)
   go_wp2_with fail
   go_ret
   exact ⟨by rw [← vW.out]; rfl, rfl⟩
theorem ny {B w : World} {D D' : PH} {l : List HP} {q : Nat} {Q : Qm Clm} (e : EntE) (hlen : Q.held.length ≤ 100000)
  (hD : PH.le D' D) (hc : OkC D' e)
  (h : Sat B D w (bZ D' q Q :: l)) :
  Calls Tryz.prog 136 #[.pointer (some ⟨q, 0, none⟩), .agg (ay e).toArray] w fun r w' => r = .returned (.tuple #[]) ∧ Sat B D w' (bZ D' q (cP RC Q (aE e)) :: l) := by
 obtain ⟨i0, hi, hz0, hz1, hz2⟩ := info_parts oA
 have HI := Eh (And.intro hi (And.intro hz0 (And.intro hz1 hz2)))
 obtain ⟨W1, hW1, hs1⟩ := Sat.hide (h.alloc (ay (cN e)).toArray bg)
 have uW := Eh hW1
 have uX := Eh hs1.swap
 clear h hs1 hW1 hi hz0 hz1 hz2
 go_enter Tryz.func136, Tryz.ntmps136
 go_upto_region 2 with fail
 simp only [sX]
 rw [← uW.out]
 clear uW
 generalize w.heap.size = bx at uX ⊢
 obtain ⟨x0, _⟩ := ei (uX.out.blk 1 rfl)
 have HL := Eh (az (dZ (uX.out.blk 1 rfl)))
 go_upto_region 3 with (first | (refine ai rfl _ _ rfl _ _ rfl _ HL.out ?_) | (go_at_call 133; refine (rp _ e.x hD (hc.mono hD) uX.out).mono ?_; rintro e1 w1 ⟨rfl, hk1⟩; have vg := Eh (uX.out.kept hk1); clear hk1 uX x0 HL))
 rcases iz (R := RC) Q.held (aE e).o (aE e).c with ⟨k, ho, hk, hlt⟩ | ⟨ho, hk⟩
 ·have HG := Eh (kZ ho)
  have HK := Eh hk
  rw [show cz (cH RC e.o (cdC e.x)) Q.held = (k : Int) from hk]
  clear ho hk
  obtain ⟨hv, wv, hs, ws, hr1, hr2, h2⟩ := aU vg.out
  obtain ⟨ha, hc2, rfl⟩ := (h2.front 1 rfl).own_shape
  have hll : hs.length = Q.held.length := by rw [← hr1.1, List.length_map]
  have hkn : k < hs.length := by omega
  obtain ⟨g, rfl⟩ : ∃ g, ha = some ⟨g, 0, none⟩ := by
   rcases (h2.own 1 rfl).2.2 with ⟨h1, h3⟩ | ⟨g, c2, cur, h1, _⟩
   ·omega
   ·cases h1; exact ⟨g, rfl⟩
  have HL := Eh (dy (ak (h2.drew.blk 3 rfl)))
  obtain ⟨c0, c1, c2, c3, c4, c5, cf⟩ := aX (h2.blk 0 rfl)
  have wL := Eh hr1
  have vZ := Eh hr2
  have uY := Eh (show Sat B D w1 (aI bg 18 (.slice (some ⟨g, 0, none⟩) hs.length hc2) hs.length (hs.flatMap ay) :: qbC q (.slice (some ⟨g, 0, none⟩) hs.length hc2) wv :: bN wv ws :: blk bx (ay (cN e)).toArray bg :: l) from h2.front 1 rfl)
  generalize hN : hs.length = N at *
  have HN := Eh hN
  clear h2 hr1 hr2 hN vg hll
  have hkN : (k : Int) < (N : Int) := by omega
  go_upto_region 4 with fail
  refine ag [(0, false, 7), (1, false, 7), (2, false, 7), (3, false, 7), (4, false, 7), (5, false, 7), (6, false, 7), (7, true, 0)] (by kernel_rfl) (by kernel_rfl) ?_
  iterate 7 (refine af rfl rfl (fun K hK => ?_); (first | ((refine aj _ _ rfl _ _ rfl _ HL.out ?_); go_simp) | go_simp); refine hK _ ?_; clear hK K)
  refine al rfl ?_
  refine cF bT eE rfl _ _ _ rfl bg g _ k N hc2 rfl (by omega) (cN e) rfl hs uY.out.drew (by kernel_rfl) hkn HN.out ?_
  intro w5 hs5
  have uZ := Eh hs5
  clear hs5 uY HL c0 c1 c2 c3 c4 c5 cf
  refine wpList_nil ?_
  refine And.intro ?_ ?_
  ·go_simp
  refine ar ?_
  simp only [Act.put, Ei, Ej, Ek, El, Em, En]
  go_wp2_with fail
  refine bodyPost_ret (results_none rfl _ _ _) rfl ?_
  refine ⟨rfl, ?_⟩
  have h6 := uZ.out.swap
  have h7 : Sat B D w5 (qbC q (.slice (some ⟨g, 0, none⟩) N hc2) wv :: bN (.slice (some ⟨g, 0, none⟩) N hc2) (hs.set k (cN e)) :: bN wv ws :: blk bx (ay (cN e)).toArray bg :: l) := by
   show Sat B D w5 (qbC q _ _ :: aI bg 18 _ (hs.set k (cN e)).length _ :: _)
   rw [List.length_set, HN.out]
   exact h6
  refine (cB (Q := cP RC Q (aE e)) ⟨?_, ?_⟩ vZ.out h7).swap.drop
  ·show _ = cy RC Q.held (aE e)
   rw [HG.out, List.map_set, wL.out.1]
   all_goals rfl
  ·intro x hx
   rcases List.mem_or_eq_of_mem_set hx with hx | rfl
   ·exact wL.out.2 x hx
   ·exact hc
 ·have HG := Eh (lp ho)
  have HK := Eh hk
  rw [show cz (cH RC e.o (cdC e.x)) Q.held = -1 from hk]
  clear ho hk
  obtain ⟨hv, wv, hs, ws, hr1, hr2, h2⟩ := aU vg.out
  obtain ⟨ha, hc2, rfl⟩ := (h2.front 1 rfl).own_shape
  have hll : hs.length = Q.held.length := by rw [← hr1.1, List.length_map]
  have HL := Eh (dy (ak (h2.drew.blk 3 rfl)))
  obtain ⟨c0, c1, c2, c3, c4, c5, cf⟩ := aX (h2.blk 0 rfl)
  have wL := Eh hr1
  have vZ := Eh hr2
  have uY := Eh (show Sat B D w1 (qbC q (.slice ha hs.length hc2) wv :: aI bg 18 (.slice ha hs.length hc2) hs.length (hs.flatMap ay) :: bN wv ws :: blk bx (ay (cN e)).toArray bg :: l) from h2)
  generalize hN : hs.length = N at *
  have HN := Eh hN
  have hNb : N ≤ 100000 := by omega
  clear h2 hr1 hr2 hN vg hll
  go_upto_region 5 with fail
  refine ag [(0, false, 10), (1, false, 7), (2, false, 7), (3, false, 7), (4, false, 7), (5, false, 6), (6, true, 0), (7, true, 0), (8, false, 10), (9, false, 10), (10, true, 0)] (by kernel_rfl) (by kernel_rfl) ?_
  iterate 6 (refine af rfl rfl (fun K hK => ?_); (first | ((refine aj _ _ rfl _ _ rfl _ HL.out ?_); go_simp) | go_simp); refine hK _ ?_; clear hK K)
  refine al rfl ?_
  refine aD rfl _ _ rfl bg i0 _ (ay (cN e)) rfl Tryz.underlying108 HI.out.1 HI.out.2.1 (HI.out.2.2.1.trans rfl) (by rw [bT]; decide) (by rw [bT]; decide) ?_
  refine wpList_nil ?_
  obtain ⟨W4, hW4, hs4⟩ := Sat.hide (uY.out.drew.alloc (ay (cN e)).toArray bg)
  rw [← hW4]
  clear hW4 uY HL c0 c1 c2 c3 c4 c5 cf
  generalize w1.drew.heap.size = bz at hs4 ⊢
  obtain ⟨c0, c1, c2, c3, c4, c5, cf⟩ := aX (hs4.blk 1 rfl)
  have vk := Eh (aS (size := 18) (n := 1) (hs4.blk 0 rfl) (by simp [bT]) (by unfold maxLen; omega))
  have vh := Eh (show Sat B D W4 (aI bg 18 (.slice ha N hc2) N (hs.flatMap ay) :: blk bz (ay (cN e)).toArray bg :: qbC q (.slice ha N hc2) wv :: bN wv ws :: blk bx (ay (cN e)).toArray bg :: l) from hs4.front 2 rfl)
  clear hs4
  refine And.intro ?_ ?_
  ·go_simp
  refine al rfl ?_
  refine au _ rfl _ _ 108 rfl bg i0 _ 18 200 Tryz.underlying108 HI.out.1 HI.out.2.1 HI.out.2.2.1 HI.out.2.2.2 rfl _ N _ rfl vh.out _ 1 _ rfl vk.out (by simpa using eE (cN e)) (by unfold maxLen; omega) (by omega) ?_
  intro v7 w7 hs7 h17
  refine wpList_nil ?_
  clear c0 c1 c2 c3 c4 c5 cf vh vk
  obtain ⟨c0, c1, c2, c3, c4, c5, cf⟩ := aX (hs7.blk 2 rfl)
  have vn := Eh (Sat.set5 (hs7.front 2 rfl) v7)
  clear hs7
  obtain ⟨va, vc, rfl⟩ : ∃ va vc, v7 = .slice va (N + 1) vc := (vn.out.front 1 rfl).own_shape
  refine And.intro ?_ ?_
  ·go_simp
  iterate 2 (refine af rfl rfl (fun K hK => ?_); (first | ((refine aj _ _ rfl _ _ rfl _ HL.out ?_); go_simp) | go_simp); refine hK _ ?_; clear hK K)
  refine al rfl ?_
  refine wpList_plain rfl (fun K hK => ?_)
  go_simp
  refine hK _ _ ?_
  clear hK K
  refine wpList_nil ?_
  refine And.intro ?_ ?_
  ·go_simp
  refine ar ?_
  go_wp2_with fail
  go_end0
  refine ⟨rfl, ?_⟩
  have h7 := (vn.out.front 2 rfl).drop
  have h8 : Sat B D (w7.setCell ⟨q, 4, none⟩ (.slice va (N + 1) vc)) (qbC q (.slice va (N + 1) vc) wv :: bN (.slice va (N + 1) vc) (hs ++ [cN e]) :: bN wv ws :: blk bx (ay (cN e)).toArray bg :: l) := by
   show Sat B D (w7.setCell ⟨q, 4, none⟩ (.slice va (N + 1) vc)) (qbC q _ _ :: aI bg 18 _ (hs ++ [cN e]).length _ :: _)
   rw [List.length_append, HN.out, List.flatMap_append]
   simpa using h7
  refine (cB (Q := cP RC Q (aE e)) ⟨?_, ?_⟩ vZ.out h8).swap.drop
  ·show _ = cy RC Q.held (aE e)
   rw [HG.out, List.map_append, wL.out.1]
   rfl
  ·intro x hx
   rcases List.mem_append.1 hx with hx | hx
   ·exact wL.out.2 x hx
   ·obtain rfl := List.mem_singleton.1 hx
    exact hc
end Go.Proofs.YtgljdkjepdknnaaGreatDoor
