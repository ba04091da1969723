/- Joined texts: Whether one claim covers another one (claim.Covers). (printed by genconf.py) Whether something is free; how many wait for more. (printed by genq.py) Giving. (printed by genq.py) -/
import Derived.Test.YtgljdkjepdknnaaGreatDoorMT10
import Derived.Test.YtgljdkjepdknnaaGreatDoorMT7
set_option maxHeartbeats 64000000
namespace Go.Proofs.YtgljdkjepdknnaaGreatDoor
open Go.ChangeShapes Go.WideShapes Go.ChangeAt Go.RowKit
set_option maxRecDepth 100000
set_option linter.unusedSimpArgs false
theorem cov1F {w : World} {b : Nat} {x : ClmE} (hb : w.heap[b]? = some (.cells x.cells.toArray tCl (0, 0))) (hx : RowsRd w (.slice x.ia x.il x.ic) x.imgs) (r : List Val) :
  PredR 119 #[.pointer (some ⟨b, 0, none⟩)] w r (cY x.imgs r) := by
 refine ⟨enters_of Tryz.func119 (by kernel_rfl) rfl, fun W rv hW hr => ?_⟩
 have y6 := (aW (aA hW hb)).2
 have HC := BO (in_R (hx.kept hW) hr)
 obtain ⟨_, hml, ra, rc, rfl, _⟩ := id hr
 clear hb hx hW hr hml
 show Calls Tryz.prog 119 #[.slice ra r.length rc, .pointer (some ⟨b, 0, none⟩)] W _
 generalize cY x.imgs r = rr at *
 generalize r.length = rl at *
 go_enter Tryz.func119, Tryz.ntmps119
 go_wp2_with (go_at_call 120; refine HC.out.mono ?_; rintro e1 w1 ⟨rfl, hk1⟩; have sW := BO hk1; clear hk1 HC y6)
 go_ret
 exact ⟨rfl, sW.out⟩
theorem cov_C {w : World} {x y : ClmE} (he : Env w) (hx : RdCl w x) (hy : RdCl w y) : Calls Tryz.prog 76 #[.agg x.cells.toArray, .agg y.cells.toArray] w fun r w' => r = .returned (.bool (RC.cov x.c y.c)) ∧ Kept (fun _ => False) w w' := by
 obtain ⟨W1, hW1, hk1, hb1, hb2⟩ := dD w x.cells.toArray y.cells.toArray tCl tCl
 have th := BO (ay (ai hb1))
 have tC := BO (ay (ai hb2))
 have sR := BO hW1
 have sW := BO hk1
 have sZ := BO hb1
 have s7 := BO hb2
 have HX := BO (hx.kept hk1)
 have HY := BO (hy.kept hk1)
 have HE := BO (he.kept hk1)
 have HP := BO (show RC.cov x.c y.c = (RC.same x.c y.c && aN x.mode y.mode && y.imgs.all (fun r => cY x.imgs r)) from rfl)
 have tD := BO (eR (hx.kept hk1) (hy.kept hk1))
 rw [HP.out]
 clear hW1 hk1 hb1 hb2 hx hy he HP
 generalize RC.same x.c y.c = rs at *
 cases rs
 ·rw [Bool.false_and, Bool.false_and]
  go_enter Tryz.func76, Tryz.ntmps76
  go_upto_region 1 with fail
  rw [← sR.out]
  clear sR
  generalize w.heap.size + 1 = b2 at s7 tC ⊢
  generalize w.heap.size = b1 at sZ th ⊢
  go_wp2_with (first | (refine ag rfl _ _ rfl _ _ rfl _ th.out ?_) | (refine ag rfl _ _ rfl _ _ rfl _ tC.out ?_) | (go_at_call 74; refine tD.out.mono ?_; rintro r3 w3 ⟨rfl, hk3⟩; have tn := BO (sW.out.trans hk3 (fun _ h => h.elim)); clear hk3 tD th tC))
  go_ret
  exact ⟨rfl, tn.out⟩
 ·cases hc : aN x.mode y.mode
  ·rw [Bool.true_and]
   have wM := BO hc
   clear hc
   rw [Bool.false_and]
   go_enter Tryz.func76, Tryz.ntmps76
   go_upto_region 1 with fail
   rw [← sR.out]
   clear sR
   generalize w.heap.size + 1 = b2 at s7 tC ⊢
   generalize w.heap.size = b1 at sZ th ⊢
   go_wp2_with (first | (refine ag rfl _ _ rfl _ _ rfl _ th.out ?_) | (refine ag rfl _ _ rfl _ _ rfl _ tC.out ?_) | (go_at_call 74; refine tD.out.mono ?_; rintro r3 w3 ⟨rfl, hk3⟩; have tn := BO (sW.out.trans hk3 (fun _ h => h.elim)); have toq := BO (fx wM.out w3 (HE.out.kept hk3).2); have x2 := (aW (aA hk3 sZ.out)).1; have y2 := (aW (aA hk3 s7.out)).1; have zc := BO hk3; clear hk3 tD th tC) | (go_at_call 117; refine toq.out.mono ?_; rintro r4 w4 ⟨rfl, hk4⟩; have ud := BO (tn.out.trans hk4 (fun _ h => h.elim)); clear hk4 toq x2 y2))
   go_ret
   exact ⟨rfl, ud.out⟩
  ·rw [Bool.true_and]
   have wM := BO hc
   clear hc
   rw [Bool.true_and]
   go_enter Tryz.func76, Tryz.ntmps76
   go_upto_region 1 with fail
   rw [← sR.out]
   clear sR
   generalize w.heap.size + 1 = b2 at s7 tC ⊢
   generalize w.heap.size = b1 at sZ th ⊢
   go_wp2_with (first | (refine ag rfl _ _ rfl _ _ rfl _ th.out ?_) | (refine ag rfl _ _ rfl _ _ rfl _ tC.out ?_) | (go_at_call 74; refine tD.out.mono ?_; rintro r3 w3 ⟨rfl, hk3⟩; have tn := BO (sW.out.trans hk3 (fun _ h => h.elim)); have toq := BO (fx wM.out w3 (HE.out.kept hk3).2); have x2 := (aW (aA hk3 sZ.out)).1; have y2 := (aW (aA hk3 s7.out)).1; have zc := BO hk3; clear hk3 tD th tC) | (go_at_call 117; refine toq.out.mono ?_; rintro r4 w4 ⟨rfl, hk4⟩; have ud := BO (tn.out.trans hk4 (fun _ h => h.elim)); have hk14 := zc.out.trans hk4 (fun _ h => h.elim); have tp := BO (rP (fun r => cY x.imgs r) (HY.out.1.kept hk14) (fun r _ => cov1F (aA hk14 sZ.out) (HX.out.1.kept hk14) r)); clear x2 y2; have y6 := (aW (aA hk14 s7.out)).2; clear hk4 hk14 toq) | (go_at_call 118; refine tp.out.mono ?_; rintro r5 w5 ⟨rfl, hk5⟩; have uq := BO (ud.out.trans hk5 (fun _ h => h.elim)); clear hk5 tp y6))
   go_ret
   exact ⟨rfl, uq.out⟩
theorem o8 {w : World} {be b2 q : Nat} {e : EntE} {hv wv : Value} (h1 : w.heap[be]? = some (.cells (au e).toArray bg (0, 0))) (h2 : w.heap[b2]? = some (.cells #[.pointer (some ⟨q, 0, none⟩)] 74 (0, 0)))
  (hq : w.heap[q]? = some (.cells #[.func (.func 74) #[] #[], .func (.func 75) #[] #[], .func (.func 76) #[] #[], .func (.func 77) #[] #[], hv, wv] tQC (0, 0))) (he : Env w) (x : EntE)
  (hx : RdCl w x.x) (hc : RdCl w e.x)
  : PredF 168 #[.pointer (some ⟨be, 0, none⟩), .pointer (some ⟨b2, 0, none⟩)] w (au x) (bC RC e.o (aG e).c (aG x)) := by
 refine ⟨enters_of Tryz.func168 (by kernel_rfl) rfl, fun W hW => ?_⟩
 obtain ⟨W1, hW1, hk1, hbx, hb1⟩ := bQ (aA hW h1) (au x).toArray bg
 have hk2 := hW.trans hk1 (fun _ h => h.elim)
 have sR := BO hW1
 have sW := BO hk1
 have tu := BO hbx
 have HE := BO (he.kept hk2)
 obtain ⟨y0, _⟩ := d5 hb1
 have wk := BO (ay (w := W1.drew) (dR (w := W1.drew) hb1))
 have HX := BO (hx.kept hk2)
 have HC := BO (hc.kept hk2)
 obtain ⟨d0, _⟩ := aM (ev hk2 h2)
 obtain ⟨q0, q1, q2, q3, q4, q5, _⟩ := a7 (ev hk2 hq)
 clear h1 h2 hq hW hW1 hk1 hk2 hbx hb1 he
 show Calls Tryz.prog 168 #[.agg (au x).toArray, .pointer (some ⟨be, 0, none⟩), .pointer (some ⟨b2, 0, none⟩)] W _
 by_cases ho : x.o = e.o
 ·have HO := BO (show bC RC e.o (aG e).c (aG x) = false by unfold bC; simp [ho])
  go_enter Tryz.func168, Tryz.ntmps168
  go_upto_region 1 with fail
  rw [← sR.out]
  clear sR
  generalize W.heap.size = bx at tu ⊢
  have x0 := (d5 tu.out).1
  rw [ho] at x0
  clear ho
  refine af [(0, false, 15), (1, false, 15), (2, false, 15), (3, false, 15), (4, false, 15), (5, false, 15), (6, false, 15), (7, false, 15), (8, false, 15), (9, false, 15), (10, false, 15), (11, false, 15), (12, false, 15), (13, false, 15), (14, false, 15), (15, true, 0), (16, false, 999), (17, false, 999)] (by kernel_rfl) (by kernel_rfl) ?_
  iterate 6 (refine ae rfl rfl (fun K hK => ?_); go_simp; refine hK _ ?_; clear hK K)
  iterate 9 (first | (refine am rfl rfl ?_; simp only [Act.put, BP, BQ, BR, BS, BT, BU]) | (refine ak rfl rfl (fun K hK => ?_); go_simp; refine hK _ ?_; clear hK K))
  refine al rfl ?_
  refine bI rfl ?_
  simp only [Act.put, BP, BQ, BR]
  refine wpList_nil ?_
  refine And.intro ?_ ?_
  ·go_simp
  iterate 2 (refine ae rfl rfl (fun K hK => ?_); go_simp; refine hK _ ?_; clear hK K)
  refine ap ?_
  go_wp2_with fail
  go_ret
  exact ⟨by rw [HO.out]; rfl, sW.out.drew⟩
 ·have HO := BO (show bC RC e.o (aG e).c (aG x) = RC.conf (aG x).c (aG e).c by unfold bC; simp [ho])
  have hne : (x.o == e.o) = false := by simpa using ho
  have hne2 : (x.o != e.o) = true := by simpa using ho
  rw [HO.out]
  go_enter Tryz.func168, Tryz.ntmps168
  go_upto_region 1 with fail
  rw [← sR.out]
  clear sR HO
  generalize W.heap.size = bx at tu ⊢
  obtain ⟨x0, _⟩ := d5 tu.out
  have tA := BO (ay (w := W1.drew) (dR (w := W1.drew) tu.out))
  clear ho
  refine af [(0, false, 15), (1, false, 15), (2, false, 15), (3, false, 15), (4, false, 15), (5, false, 15), (6, false, 15), (7, false, 15), (8, false, 15), (9, false, 15), (10, false, 15), (11, false, 15), (12, false, 15), (13, false, 15), (14, false, 15), (15, true, 0), (16, false, 999), (17, false, 999)] (by kernel_rfl) (by kernel_rfl) ?_
  iterate 6 (refine ae rfl rfl (fun K hK => ?_); (first | ((refine aj _ _ rfl _ _ rfl _ tA.out ?_); go_simp) | ((refine aj _ _ rfl _ _ rfl _ wk.out ?_); go_simp) | go_simp); refine hK _ ?_; clear hK K)
  iterate 9 (first | (refine am rfl rfl ?_; simp only [Act.put, BP, BQ, BR, BS, BT, BU]) | (refine ak rfl rfl (fun K hK => ?_); (first | ((refine aj _ _ rfl _ _ rfl _ tA.out ?_); go_simp) | ((refine aj _ _ rfl _ _ rfl _ wk.out ?_); go_simp) | go_simp); refine hK _ ?_; clear hK K))
  refine al rfl ?_
  refine aw rfl (fun K hK => ?_)
  go_simp
  refine (conf_C HE.out.drew HX.out.drew HC.out.drew).mono ?_
  rintro e2 w2 ⟨rfl, hk⟩
  have s8 := BO (sW.out.drew.trans hk (fun _ h => h.elim))
  clear hk
  refine hK _ _ ?_
  clear hK K
  refine wpList_nil ?_
  refine And.intro ?_ ?_
  ·go_simp
  iterate 2 (refine ae rfl rfl (fun K hK => ?_); (first | ((refine aj _ _ rfl _ _ rfl _ tA.out ?_); go_simp) | ((refine aj _ _ rfl _ _ rfl _ wk.out ?_); go_simp) | go_simp); refine hK _ ?_; clear hK K)
  refine ap ?_
  go_wp2_with fail
  go_ret
  exact ⟨rfl, s8.out⟩
theorem fj {B w : World} {D D' : PH} {l : List HP} {q : Nat} {Q : Qm Clm} {av : Value} {zs : List (EntE)} (e : EntE) (he : Env w)
  (hD : PH.le D' D) (hc : ClOk D e.x) (ha : ∀ x ∈ zs, ClOk D x.x)
  (hrd : Rd w 18 av zs.length (zs.flatMap au)) (h : Sat B D w (bP D' q Q :: l)) :
  Calls Tryz.prog 135 #[.pointer (some ⟨q, 0, none⟩), .agg (au e).toArray, av] w fun r w' => r = .returned (.bool (dB RC Q e.o (aG e).c (zs.map aG))) ∧ Kept (fun _ => False) w w' := by
 obtain ⟨hv, wv, hs, ws, hr1, hr2, h1⟩ := aU h
 obtain ⟨W1, hW1, hk1, hb1, hb2⟩ := gX w #[.pointer (some ⟨q, 0, none⟩)] (au e).toArray 74 bg
 have hq1 := ev hk1 (h1.blk 0 rfl)
 have HI := BO (gp (fun x => bC RC e.o (aG e).c (aG x)) ((h1.own 1 rfl).rd.kept hk1 (fun _ _ h => h)) (fun x hx => o8 hb2 hb1 hq1 (he.kept hk1) x
  (((hr1.2 x hx).mono hD).rd (h1.kept hk1)) (hc.rd (h1.kept hk1))
  ))
 have HJ := BO (show ∀ W2, Kept (fun _ => False) W1 W2 → _ from fun W2 hk2 => gp (w := W2) (v := av) (fun x => bC RC e.o (aG e).c (aG x)) ((hrd.kept hk1 (fun _ _ h => h)).kept hk2 (fun _ _ h => h)) (fun x hx => (o8 hb2 hb1 hq1 (he.kept hk1) x
  ((ha x hx).rd (h1.kept hk1)) (hc.rd (h1.kept hk1))
  ).kept hk2))
 rw [dL (bC RC e.o (aG e).c), hr1.1] at HI
 have HA := BO (dL (bC RC e.o (aG e).c) zs)
 rw [HA.out] at HJ
 have HR := BO (show dB RC Q e.o (aG e).c (zs.map aG) = (!(Q.held.any (bC RC e.o (aG e).c)) && !((zs.map aG).any (bC RC e.o (aG e).c))) from rfl)
 rw [HR.out]
 have sR := BO hW1
 have sW := BO hk1
 have vO := BO hq1
 obtain ⟨d0, _⟩ := aM hb1
 obtain ⟨_, _, aa, ac, rfl, _⟩ := id hrd
 clear h h1 hr1 hr2 hW1 hk1 hb1 hb2 hq1 HA HR hrd he
 generalize Q.held.any (bC RC e.o (aG e).c) = r1 at *
 generalize (zs.map aG).any (bC RC e.o (aG e).c) = r2 at *
 cases r1
 all_goals
  go_enter Tryz.func135, Tryz.ntmps135
  go_upto_region 2 with fail
  rw [← sR.out]
  clear sR
  generalize w.heap.size + 1 = bx2 at HI HJ ⊢
  generalize w.heap.size = bx1 at HI HJ d0 ⊢
  obtain ⟨c0, c1, c2, c3, c4, c5, cf⟩ := a7 vO.out
  go_wp2_with (go_at_call 169; first | (refine HI.out.mono ?_; rintro e1 w1 ⟨rfl, hk2⟩; have s8 := BO hk2; clear hk2 HI c0 c1 c2 c3 c4 c5 cf d0) | (refine (HJ.out _ s8.out).mono ?_; rintro e3 w3 ⟨rfl, hk3⟩; replace s8 := BO (s8.out.trans hk3 (fun _ h => h.elim)); clear hk3 HJ))
  go_ret
  exact ⟨rfl, sW.out.trans s8.out (fun _ h => h.elim)⟩
theorem mores_C {B w : World} {D D' : PH} {l : List HP} {q : Nat} {Q : Qm Clm} (h : Sat B D w (bP D' q Q :: l)) :
  Calls Tryz.prog 134 #[.pointer (some ⟨q, 0, none⟩)] w fun e w' => e = .returned (.int .i64 (ce Q.waits : Nat)) ∧ w = w' := by
 obtain ⟨hv, wv, hs, ws, hr1, hr2, h1⟩ := aU h
 obtain ⟨_, hml, wa, wc, rfl, hnc, hcm, _⟩ := id (h1.own 2 rfl).rd
 unfold maxLen at hml hcm
 have s5 := BO (h1.own 2 rfl).rd
 obtain ⟨c0, c1, c2, c3, c4, c5, cf⟩ := a7 (h1.blk 0 rfl)
 have HW := BO hr2.1
 clear h h1 hr1 hr2
 have hlm : ce Q.waits ≤ ws.length := by rw [← List.length_map (f := aG), HW.out]; exact fG _
 obtain ⟨N, hN⟩ : ∃ N, ws.length = N := ⟨_, rfl⟩
 have HN := BO hN
 rw [hN] at s5 hml hnc hlm c5
 clear hN
 go_enter Tryz.func134, Tryz.ntmps134
 go_wp2_with fail
 go_loop [3] (fun i => ∃ k : Nat, i = .int .i64 k ∧ k ≤ ce Q.waits) (fun i => N - (intOf i).toNat)
 case atStart => exact ⟨0, rfl, by omega⟩
 case round =>
  obtain ⟨k, rfl, hk⟩ := hrel
  by_cases hlt : k < N
  ·have hi : (k : Int) < (N : Int) := by omega
   obtain ⟨x, hx⟩ : ∃ x, ws[k]? = some x := ⟨ws[k]'(by rw [HN.out]; exact hlt), List.getElem?_eq_getElem _⟩
   obtain ⟨g, o, rfl, hrng⟩ := aD bM s5.out hx HN.out
   have hx2 : Q.waits[k]? = some (aG x) := by rw [← HW.out, List.getElem?_map, hx]; rfl
   have x2 := moreC hrng
   by_cases hkm : k < ce Q.waits
   ·have hm := BO (show x.more = true from more_lt hkm hx2)
    rw [hm.out] at x2
    clear hx hrng hx2 hm
    go_wp2_with fail
    go_round
    case rel => exact ⟨k + 1, by go_num, by omega⟩
    case measure => simp [intOf]; omega
   ·have hke : k = ce Q.waits := by omega
    have hm := BO (show x.more = false from pq hke hx2)
    have tN := BO hke
    rw [hm.out] at x2
    clear hx hrng hx2 hm hke
    go_wp2_with fail
    go_ret
    exact ⟨by rw [← tN.out]; rfl, rfl⟩
  ·have hi : ¬ ((k : Int) < (N : Int)) := by omega
   have tN := BO (show k = ce Q.waits by omega)
   go_wp2_with fail
   go_ret
   exact ⟨by rw [← tN.out]; rfl, rfl⟩
theorem lV {B w : World} {D D' : PH} {l : List HP} {q : Nat} {Q : Qm Clm} (e : EntE) (hlen : Q.held.length ≤ 100000)
  (hD : PH.le D' D) (hc : OkC D' e)
  (h : Sat B D w (bP D' q Q :: l)) :
  Calls Tryz.prog 136 #[.pointer (some ⟨q, 0, none⟩), .agg (au e).toArray] w fun r w' => r = .returned (.tuple #[]) ∧ Sat B D w' (bP D' q (ci RC Q (aG e)) :: l) := by
 obtain ⟨i0, hi, hz0, hz1, hz2⟩ := info_parts mt
 have HI := BO (And.intro hi (And.intro hz0 (And.intro hz1 hz2)))
 obtain ⟨W1, hW1, hs1⟩ := Sat.hide (h.alloc (au (cE e)).toArray bg)
 have sR := BO hW1
 have sS := BO hs1.swap
 clear h hs1 hW1 hi hz0 hz1 hz2
 go_enter Tryz.func136, Tryz.ntmps136
 go_upto_region 2 with fail
 simp only [qJ]
 rw [← sR.out]
 clear sR
 generalize w.heap.size = bx at sS ⊢
 obtain ⟨x0, _⟩ := d5 (sS.out.blk 1 rfl)
 have HL := BO (ay (dR (sS.out.blk 1 rfl)))
 go_upto_region 3 with (first | (refine ag rfl _ _ rfl _ _ rfl _ HL.out ?_) | (go_at_call 133; refine (pC _ e.x hD (hc.mono hD) sS.out).mono ?_; rintro e1 w1 ⟨rfl, hk1⟩; have sX := BO (sS.out.kept hk1); clear hk1 sS x0 HL))
 rcases gL (R := RC) Q.held (aG e).o (aG e).c with ⟨k, ho, hk, hlt⟩ | ⟨ho, hk⟩
 ·have HG := BO (kA ho)
  have HK := BO hk
  rw [show cl (cw RC e.o (cdC e.x)) Q.held = (k : Int) from hk]
  clear ho hk
  obtain ⟨hv, wv, hs, ws, hr1, hr2, h2⟩ := aU sX.out
  obtain ⟨ha, hc2, rfl⟩ := (h2.front 1 rfl).own_shape
  have hll : hs.length = Q.held.length := by rw [← hr1.1, List.length_map]
  have hkn : k < hs.length := by omega
  obtain ⟨g, rfl⟩ : ∃ g, ha = some ⟨g, 0, none⟩ := by
   rcases (h2.own 1 rfl).2.2 with ⟨h1, h3⟩ | ⟨g, c2, cur, h1, _⟩
   ·omega
   ·cases h1; exact ⟨g, rfl⟩
  have HL := BO (dk (ai (h2.drew.blk 3 rfl)))
  obtain ⟨c0, c1, c2, c3, c4, c5, cf⟩ := a7 (h2.blk 0 rfl)
  have ut := BO hr1
  have tR := BO hr2
  have sU := BO (show Sat B D w1 (aJ bg 18 (.slice (some ⟨g, 0, none⟩) hs.length hc2) hs.length (hs.flatMap au) :: qbC q (.slice (some ⟨g, 0, none⟩) hs.length hc2) wv :: bU wv ws :: blk bx (au (cE e)).toArray bg :: l) from h2.front 1 rfl)
  generalize hN : hs.length = N at *
  have HN := BO hN
  clear h2 hr1 hr2 hN sX hll
  have hkN : (k : Int) < (N : Int) := by omega
  go_upto_region 4 with fail
  refine af [(0, false, 7), (1, false, 7), (2, false, 7), (3, false, 7), (4, false, 7), (5, false, 7), (6, false, 7), (7, true, 0)] (by kernel_rfl) (by kernel_rfl) ?_
  iterate 7 (refine ae rfl rfl (fun K hK => ?_); (first | ((refine aj _ _ rfl _ _ rfl _ HL.out ?_); go_simp) | go_simp); refine hK _ ?_; clear hK K)
  refine al rfl ?_
  refine ct bM eA rfl _ _ _ rfl bg g _ k N hc2 rfl (by omega) (cE e) rfl hs sU.out.drew (by kernel_rfl) hkn HN.out ?_
  intro w5 hs5
  have sV := BO hs5
  clear hs5 sU HL c0 c1 c2 c3 c4 c5 cf
  refine wpList_nil ?_
  refine And.intro ?_ ?_
  ·go_simp
  refine ap ?_
  simp only [Act.put, BP, BQ, BR, BS, BT, BU]
  go_wp2_with fail
  refine bodyPost_ret (results_none rfl _ _ _) rfl ?_
  refine ⟨rfl, ?_⟩
  have h6 := sV.out.swap
  have h7 : Sat B D w5 (qbC q (.slice (some ⟨g, 0, none⟩) N hc2) wv :: bU (.slice (some ⟨g, 0, none⟩) N hc2) (hs.set k (cE e)) :: bU wv ws :: blk bx (au (cE e)).toArray bg :: l) := by
   show Sat B D w5 (qbC q _ _ :: aJ bg 18 _ (hs.set k (cE e)).length _ :: _)
   rw [List.length_set, HN.out]
   exact h6
  refine (cr (Q := ci RC Q (aG e)) ⟨?_, ?_⟩ tR.out h7).swap.drop
  ·show _ = bX RC Q.held (aG e)
   rw [HG.out, List.map_set, ut.out.1]
   all_goals rfl
  ·intro x hx
   rcases List.mem_or_eq_of_mem_set hx with hx | rfl
   ·exact ut.out.2 x hx
   ·exact hc
 ·have HG := BO (ka ho)
  have HK := BO hk
  rw [show cl (cw RC e.o (cdC e.x)) Q.held = -1 from hk]
  clear ho hk
  obtain ⟨hv, wv, hs, ws, hr1, hr2, h2⟩ := aU sX.out
  obtain ⟨ha, hc2, rfl⟩ := (h2.front 1 rfl).own_shape
  have hll : hs.length = Q.held.length := by rw [← hr1.1, List.length_map]
  have HL := BO (dk (ai (h2.drew.blk 3 rfl)))
  obtain ⟨c0, c1, c2, c3, c4, c5, cf⟩ := a7 (h2.blk 0 rfl)
  have ut := BO hr1
  have tR := BO hr2
  have sU := BO (show Sat B D w1 (qbC q (.slice ha hs.length hc2) wv :: aJ bg 18 (.slice ha hs.length hc2) hs.length (hs.flatMap au) :: bU wv ws :: blk bx (au (cE e)).toArray bg :: l) from h2)
  generalize hN : hs.length = N at *
  have HN := BO hN
  have hNb : N ≤ 100000 := by omega
  clear h2 hr1 hr2 hN sX hll
  go_upto_region 5 with fail
  refine af [(0, false, 10), (1, false, 7), (2, false, 7), (3, false, 7), (4, false, 7), (5, false, 6), (6, true, 0), (7, true, 0), (8, false, 10), (9, false, 10), (10, true, 0)] (by kernel_rfl) (by kernel_rfl) ?_
  iterate 6 (refine ae rfl rfl (fun K hK => ?_); (first | ((refine aj _ _ rfl _ _ rfl _ HL.out ?_); go_simp) | go_simp); refine hK _ ?_; clear hK K)
  refine al rfl ?_
  refine aC rfl _ _ rfl bg i0 _ (au (cE e)) rfl Tryz.underlying108 HI.out.1 HI.out.2.1 (HI.out.2.2.1.trans rfl) (by rw [bM]; decide) (by rw [bM]; decide) ?_
  refine wpList_nil ?_
  obtain ⟨W4, hW4, hs4⟩ := Sat.hide (sU.out.drew.alloc (au (cE e)).toArray bg)
  rw [← hW4]
  clear hW4 sU HL c0 c1 c2 c3 c4 c5 cf
  generalize w1.drew.heap.size = bz at hs4 ⊢
  obtain ⟨c0, c1, c2, c3, c4, c5, cf⟩ := a7 (hs4.blk 1 rfl)
  have s5 := BO (aT (size := 18) (n := 1) (hs4.blk 0 rfl) (by simp [bM]) (by unfold maxLen; omega))
  have sY := BO (show Sat B D W4 (aJ bg 18 (.slice ha N hc2) N (hs.flatMap au) :: blk bz (au (cE e)).toArray bg :: qbC q (.slice ha N hc2) wv :: bU wv ws :: blk bx (au (cE e)).toArray bg :: l) from hs4.front 2 rfl)
  clear hs4
  refine And.intro ?_ ?_
  ·go_simp
  refine al rfl ?_
  refine ar _ rfl _ _ 108 rfl bg i0 _ 18 200 Tryz.underlying108 HI.out.1 HI.out.2.1 HI.out.2.2.1 HI.out.2.2.2 rfl _ N _ rfl sY.out _ 1 _ rfl s5.out (by simpa using eA (cE e)) (by unfold maxLen; omega) (by omega) ?_
  intro v7 w7 hs7 h17
  refine wpList_nil ?_
  clear c0 c1 c2 c3 c4 c5 cf sY s5
  obtain ⟨c0, c1, c2, c3, c4, c5, cf⟩ := a7 (hs7.blk 2 rfl)
  have td := BO (Sat.set5 (hs7.front 2 rfl) v7)
  clear hs7
  obtain ⟨va, vc, rfl⟩ : ∃ va vc, v7 = .slice va (N + 1) vc := (td.out.front 1 rfl).own_shape
  refine And.intro ?_ ?_
  ·go_simp
  iterate 2 (refine ae rfl rfl (fun K hK => ?_); (first | ((refine aj _ _ rfl _ _ rfl _ HL.out ?_); go_simp) | go_simp); refine hK _ ?_; clear hK K)
  refine al rfl ?_
  refine wpList_plain rfl (fun K hK => ?_)
  go_simp
  refine hK _ _ ?_
  clear hK K
  refine wpList_nil ?_
  refine And.intro ?_ ?_
  ·go_simp
  refine ap ?_
  go_wp2_with fail
  go_end0
  refine ⟨rfl, ?_⟩
  have h7 := (td.out.front 2 rfl).drop
  have h8 : Sat B D (w7.setCell ⟨q, 4, none⟩ (.slice va (N + 1) vc)) (qbC q (.slice va (N + 1) vc) wv :: bU (.slice va (N + 1) vc) (hs ++ [cE e]) :: bU wv ws :: blk bx (au (cE e)).toArray bg :: l) := by
   show Sat B D (w7.setCell ⟨q, 4, none⟩ (.slice va (N + 1) vc)) (qbC q _ _ :: aJ bg 18 _ (hs ++ [cE e]).length _ :: _)
   rw [List.length_append, HN.out, List.flatMap_append]
   simpa using h7
  refine (cr (Q := ci RC Q (aG e)) ⟨?_, ?_⟩ tR.out h8).swap.drop
  ·show _ = bX RC Q.held (aG e)
   rw [HG.out, List.map_append, ut.out.1]
   rfl
  ·intro x hx
   rcases List.mem_append.1 hx with hx | hx
   ·exact ut.out.2 x hx
   ·obtain rfl := List.mem_singleton.1 hx
    exact hc
end Go.Proofs.YtgljdkjepdknnaaGreatDoor
