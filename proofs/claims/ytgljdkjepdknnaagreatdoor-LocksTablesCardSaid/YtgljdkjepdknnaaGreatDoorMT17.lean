/- Joined texts: Is a claim one that is small (ratlinelaw11.flat, few). A queue of claims that is none. (printed by genref3.py) The document's answer: are two predicates the same (ratlineref03.Same). (printed by genref3.py) The document's answer: two claims that are the same in all are told so (ratlineref02.Rows, ratlineref09.Equal). Claims among a law's arguments, opened. A queue that is none has nothing (the law FifoNone). -/
import Derived.Test.YtgljdkjepdknnaaGreatDoorMT12
import Derived.Test.YtgljdkjepdknnaaGreatDoorMT15
import Derived.Test.YtgljdkjepdknnaaGreatDoorMT7
import Derived.Test.YtgljdkjepdknnaaGreatDoorMT10
import Derived.Test.YtgljdkjepdknnaaGreatDoorMT16
import Derived.Test.YtgljdkjepdknnaaGreatDoorMT6
set_option maxHeartbeats 64000000
namespace Go.Proofs.YtgljdkjepdknnaaGreatDoor
open Go.ChangeShapes Go.WideShapes Go.ChangeAt Go.RowKit
set_option maxRecDepth 100000
set_option linter.unusedSimpArgs false
mutual
def PredT.flat : PredT → Nat → Bool
 | .mk _ _ _ _ l, d => decide (d ≤ 4) && decide (l.length ≤ 4) && PredT.flatL l (d + 1)
def PredT.flatL : List PredT → Nat → Bool
 | [], _ => true
 | p :: l, d => p.flat d && PredT.flatL l d
end
theorem lm (d : Nat) : ∀ l : List PredT, PredT.flatL l d = l.all (fun p => p.flat d)
 | [] => rfl
 | p :: l => by unfold PredT.flatL; rw [lm d l]; rfl
theorem PredT.flat_eq (op col : Int) (v w : Val) (l : List PredT) (d : Nat) : (PredT.mk op col v w l).flat d = (decide (d ≤ 4) && decide (l.length ≤ 4) && l.all (fun p => p.flat (d + 1))) := by
 conv => lhs; unfold PredT.flat
 rw [lm]
theorem flat_sm : ∀ (p : PredT) (d : Nat), p.flat d = true → PredSm p := by
 refine PredT.ind fun op col v w l ih d h => ?_
 rw [PredT.flat_eq, Bool.and_eq_true, Bool.and_eq_true, decide_eq_true_eq, decide_eq_true_eq] at h
 exact .mk _ _ _ _ _ (by omega) (fun q hq => ih q hq (d + 1) (List.all_eq_true.1 h.2 q hq))
def gh (c : Clm) : Bool := decide (c.imgs.length ≤ 6) && c.imgs.all (fun r => decide (r.length ≤ 6)) && c.pred.flat 0
theorem nW {c : Clm} (h : gh c = true) : ClmSm 6 c := by
 unfold gh at h
 rw [Bool.and_eq_true, Bool.and_eq_true, decide_eq_true_eq] at h
 refine ⟨h.1.1, fun r hr => ?_, flat_sm _ 0 h.2⟩
 have := of_decide_eq_true (List.all_eq_true.1 h.1.2 r hr)
 omega
theorem flat_ok : ∀ (p : PredT) (x : PredE) (d : Nat) (w : World), x.p = p → d ≤ 5 → PredsRd w (.slice x.la x.ln x.lc) x.subs →
  Calls Tryz.prog 56 #[.agg x.cells.toArray, .int .i64 d] w fun e w' => e = .returned (.bool (x.p.flat d)) ∧ Kept (fun _ => False) w w' := by
 refine PredT.ind fun op col v w0 l ih x d w hx hd5 h1 => ?_
 have hl : x.subs = l := by unfold PredE.p at hx; cases hx; rfl
 obtain ⟨W1, hW1, hk1, hb1⟩ : ∃ W, W = w.alloc (.cells x.cells.toArray tPr) ∧ Kept (fun _ => False) w W ∧ W.heap[w.heap.size]? = some (.cells x.cells.toArray tPr (0, 0)) := ⟨_, rfl, (Kept.refl _ _).alloc _, aB _ _⟩
 obtain ⟨es, he, hsub, hes⟩ : ∃ es : List PredE, Rd W1 9 (.slice x.la x.ln x.lc) es.length (es.flatMap PredE.cells) ∧ x.subs = es.map PredE.p ∧ ∀ e ∈ es, ∀ W, d + 1 ≤ 5 → Kept (fun _ => False) W1 W → Calls Tryz.prog 56 #[.agg e.cells.toArray, .int .i64 (d + 1 : Nat)] W fun r w' => r = .returned (.bool (e.p.flat (d + 1))) ∧ Kept (fun _ => False) W w' := by
  have k1 := h1.kept hk1
  generalize hxs : x.subs = xs at k1 hl
  cases k1 with
  | mk _ es he hes => exact ⟨es, he, rfl, fun e hee W hd hW => ih e.p (by rw [← hl]; exact List.mem_map.2 ⟨e, hee, rfl⟩) e (d + 1) W rfl hd ((hes e hee).kept hW)⟩
 have HP := BO (show x.p.flat d = _ from PredT.flat_eq x.op x.col x.v x.w x.subs d)
 rw [hsub, List.length_map, List.all_map] at HP
 have sR := BO hW1
 have sW := BO hk1
 have sZ := BO hb1
 have HE := BO he
 have vP := BO hes
 obtain ⟨_, hml, _, _, hsl, hnc, _⟩ := id he
 unfold maxLen at hml
 have hln : x.ln = es.length := (Value.slice.inj hsl).2.1
 have tE := BO hln
 clear h1 hW1 hk1 hb1 hx hl ih he hes hsub hsl hln hnc
 by_cases hd : d ≤ 4
 ·by_cases hle : es.length ≤ 4
  ·have HR := BO (show x.p.flat d = es.all (fun e => e.p.flat (d + 1)) by rw [HP.out, decide_eq_true hd, decide_eq_true hle]; rfl)
   rw [HR.out]
   have hdi : ¬ ((4 : Int) < (d : Int)) := by omega
   have hli : ¬ ((4 : Int) < (es.length : Int)) := by omega
   obtain ⟨N, hN⟩ : ∃ N, es.length = N := ⟨_, rfl⟩
   have HN := BO hN
   rw [hN] at tE hml hli HE
   clear HP hN hle HR
   go_enter Tryz.func56, Tryz.ntmps56
   go_upto_region 1 with fail
   rw [← sR.out]
   clear sR
   generalize w.heap.size = b1 at sZ ⊢
   obtain ⟨x0, x1, x2, x3, x4, x5, x6, x7, x8⟩ := aK sZ.out
   rw [tE.out] at x8
   go_wp2_with fail
   go_loopw [5] (fun i wr => ∃ j : Nat, i = .int .i64 j ∧ j ≤ N ∧ (∀ e ∈ es.take j, e.p.flat (d + 1) = true) ∧ Kept (fun _ => False) W1 wr) (fun i _ => N - (intOf i).toNat)
   case atStart => exact ⟨0, rfl, by omega, fun e he => by simp at he, Kept.refl _ _⟩
   case round =>
    obtain ⟨j, rfl, hj, hall, hk⟩ := hrel
    have tp := BO hall
    have HK := BO hk
    clear hall hk x0 x1 x2 x3 x4 x5 x6 x7 x8
    obtain ⟨x0, x1, x2, x3, x4, x5, x6, x7, x8⟩ := aK (aA HK.out sZ.out)
    rw [tE.out] at x8
    by_cases hlt : j < N
    ·have hji : (j : Int) < (N : Int) := by omega
     obtain ⟨e, he⟩ : ∃ e, es[j]? = some e := ⟨es[j]'(by rw [HN.out]; exact hlt), List.getElem?_eq_getElem _⟩
     obtain ⟨g, og, hga, hrng⟩ := aD PredE.len (by have := HE.out.kept HK.out (fun _ _ h => h); rw [tE.out] at this; exact this) he HN.out
     have HL := BO (bu hrng)
     rw [hga] at x8
     have HX := BO he
     have HC := BO (vP.out e (List.mem_of_getElem? he) wr (by omega) HK.out)
     clear he hga hrng
     cases hp : e.p.flat (d + 1)
     ·rw [hp] at HC
      have HR := BO (show es.all (fun e => e.p.flat (d + 1)) = false from List.all_eq_false.2 ⟨e, List.mem_of_getElem? HX.out, by simp [hp]⟩)
      clear hp
      go_wp2_with (first | (refine ag rfl _ _ rfl _ _ rfl _ HL.out ?_) | (go_at_call 56; refine HC.out.mono ?_; rintro e1 w1 ⟨rfl, hk1⟩; have s8 := BO (HK.out.trans hk1 (fun _ h => h.elim)); clear hk1 HC HL x0 x1 x2 x3 x4 x5 x6 x7 x8))
      go_ret
      exact ⟨by rw [HR.out]; rfl, sW.out.trans s8.out (fun _ h => h.elim)⟩
     ·rw [hp] at HC
      have up := BO hp
      clear hp
      go_wp2_with (first | (refine ag rfl _ _ rfl _ _ rfl _ HL.out ?_) | (go_at_call 56; refine HC.out.mono ?_; rintro e1 w1 ⟨rfl, hk1⟩; have s8 := BO (HK.out.trans hk1 (fun _ h => h.elim)); clear hk1 HC HL x0 x1 x2 x3 x4 x5 x6 x7 x8))
      go_roundw
      case rel => exact ⟨j + 1, by go_num, by omega, cN tp.out HX.out up.out, s8.out⟩
      case measure => simp [intOf]; omega
    ·have hji : ¬ ((j : Int) < (N : Int)) := by omega
     have HR := BO (show es.all (fun e => e.p.flat (d + 1)) = true from List.all_eq_true.2 (fun e he => tp.out e (by rw [List.take_of_length_le (by rw [HN.out]; omega)]; exact he)))
     go_wp2_with fail
     go_ret
     exact ⟨by rw [HR.out]; rfl, sW.out.trans HK.out (fun _ h => h.elim)⟩
  ·have HR := BO (show x.p.flat d = false by rw [HP.out, decide_eq_false hle]; simp)
   have hdi : ¬ ((4 : Int) < (d : Int)) := by omega
   have hli : (4 : Int) < (es.length : Int) := by omega
   rw [HR.out]
   clear HP hle HE vP
   generalize es.length = N at *
   go_enter Tryz.func56, Tryz.ntmps56
   go_upto_region 1 with fail
   rw [← sR.out]
   clear sR
   generalize w.heap.size = b1 at sZ ⊢
   obtain ⟨x0, x1, x2, x3, x4, x5, x6, x7, x8⟩ := aK sZ.out
   rw [tE.out] at x8
   go_wp2_with fail
   go_ret
   exact ⟨rfl, sW.out⟩
 ·have HR := BO (show x.p.flat d = false by rw [HP.out, decide_eq_false hd]; simp)
  have hdi : (4 : Int) < (d : Int) := by omega
  rw [HR.out]
  clear HP hd HE vP
  go_enter Tryz.func56, Tryz.ntmps56
  go_upto_region 1 with fail
  rw [← sR.out]
  clear sR
  generalize w.heap.size = b1 at sZ ⊢
  go_wp2_with fail
  go_ret
  exact ⟨rfl, sW.out⟩
theorem few_ok {w : World} {x : ClmE} (hx : RdCl w x) : Calls Tryz.prog 23 #[.agg x.cells.toArray] w fun e w' => e = .returned (.bool (gh x.c)) ∧ Kept (fun _ => False) w w' := by
 obtain ⟨W1, hW1, hk1, hb1⟩ : ∃ W, W = w.alloc (.cells x.cells.toArray tCl) ∧ Kept (fun _ => False) w W ∧ W.heap[w.heap.size]? = some (.cells x.cells.toArray tCl (0, 0)) := ⟨_, rfl, (Kept.refl _ _).alloc _, aB _ _⟩
 obtain ⟨ia, il, hil, hnc, hml, hcm⟩ := (hx.1.kept hk1).shape
 have vt := BO (Value.slice.inj hil).2.1
 have HX := BO (hx.1.kept hk1)
 have HP := BO (show gh x.c = (decide (x.imgs.length ≤ 6) && x.imgs.all (fun r => decide (r.length ≤ 6)) && x.pr.p.flat 0) from rfl)
 have vC := BO (bu (eF hb1))
 have Ae := BO (flat_ok x.pr.p x.pr 0 W1 rfl (by omega) (hx.2.kept hk1))
 have x6 := (aW hb1).2
 rw [vt.out] at x6
 have sR := BO hW1
 have sW := BO hk1
 clear hx hW1 hk1 hb1 hil
 by_cases hle : x.imgs.length ≤ 6
 ·have hli : ¬ ((6 : Int) < (x.imgs.length : Int)) := by omega
  rw [HP.out, decide_eq_true hle, Bool.true_and]
  obtain ⟨N, hN⟩ : ∃ N, x.imgs.length = N := ⟨_, rfl⟩
  have HN := BO hN
  rw [hN] at x6 hli hml hnc
  rw [hN] at vt
  clear HP hN hle
  go_enter Tryz.func23, Tryz.ntmps23
  go_upto_region 1 with fail
  rw [← sR.out]
  clear sR
  generalize w.heap.size = b1 at *
  go_wp2_with fail
  go_loop [3] (fun i => ∃ j : Nat, i = .int .i64 j ∧ j ≤ N ∧ ∀ r ∈ x.imgs.take j, decide (r.length ≤ 6) = true) (fun i => N - (intOf i).toNat)
  case atStart => exact ⟨0, rfl, by omega, fun r hr => by simp at hr⟩
  case round =>
   obtain ⟨j, rfl, hj, hall⟩ := hrel
   have tp := BO hall
   clear hall
   by_cases hlt : j < N
   ·have hji : (j : Int) < (N : Int) := by omega
    obtain ⟨r, hr⟩ : ∃ r, x.imgs[j]? = some r := ⟨x.imgs[j]'(by rw [HN.out]; exact hlt), List.getElem?_eq_getElem _⟩
    obtain ⟨g, og, ra, rc, hga, y0, hrow, hrl, hrc⟩ := eB (by have := HX.out; rw [vt.out] at this; exact this) hr
    rw [hga] at x6
    have HR := BO hr
    clear hr hrow hga
    by_cases hr6 : r.length ≤ 6
    ·have hri : ¬ ((6 : Int) < (r.length : Int)) := by omega
     have wK := BO (decide_eq_true hr6)
     clear hr6
     go_wp2_with fail
     go_round
     case rel => exact ⟨j + 1, by go_num, by omega, cN tp.out HR.out wK.out⟩
     case measure => simp [intOf]; omega
    ·have hri : (6 : Int) < (r.length : Int) := by omega
     have Af := BO (show (x.imgs.all (fun r => decide (r.length ≤ 6)) && x.pr.p.flat 0) = false by rw [List.all_eq_false.2 ⟨r, List.mem_of_getElem? HR.out, by simp; omega⟩]; rfl)
     clear hr6
     go_wp2_with fail
     go_ret
     exact ⟨by rw [Af.out]; rfl, sW.out⟩
   ·have hji : ¬ ((j : Int) < (N : Int)) := by omega
    have Af := BO (show (x.imgs.all (fun r => decide (r.length ≤ 6)) && x.pr.p.flat 0) = x.pr.p.flat 0 by rw [List.all_eq_true.2 (fun r hr => tp.out r (by rw [List.take_of_length_le (by rw [HN.out]; omega)]; exact hr)), Bool.true_and])
    go_wp2_with (first | (refine ag rfl _ _ rfl _ _ rfl _ vC.out ?_) | (go_at_call 56; refine Ae.out.mono ?_; rintro e1 w1 ⟨rfl, hk1⟩; have s8 := BO (sW.out.trans hk1 (fun _ h => h.elim)); clear hk1 Ae vC x6))
    go_ret
    exact ⟨by rw [Af.out]; rfl, s8.out⟩
 ·have hli : (6 : Int) < (x.imgs.length : Int) := by omega
  have HR := BO (show gh x.c = false by rw [HP.out, decide_eq_false hle]; simp)
  rw [HR.out]
  clear HP hle Ae vC HR
  generalize x.imgs.length = N at *
  go_enter Tryz.func23, Tryz.ntmps23
  go_upto_region 1 with fail
  rw [← sR.out]
  clear sR
  generalize w.heap.size = b1 at *
  go_wp2_with fail
  go_ret
  exact ⟨rfl, sW.out⟩
theorem lv : ∀ (p : PredT) (x y : PredE) (w : World), x.p = p → PredsRd w (.slice x.la x.ln x.lc) x.subs → PredsRd w (.slice y.la y.ln y.lc) y.subs →
  Calls Tryz.prog 63 #[.agg x.cells.toArray, .agg y.cells.toArray] w fun r w' => r = .returned (.bool (bR x.p y.p)) ∧ Kept (fun _ => False) w w' := by
 refine PredT.ind fun op col v w0 l ih x y w hx h1 h2 => ?_
 have hl : x.subs = l := by unfold PredE.p at hx; cases hx; rfl
 obtain ⟨W1, hW1, hk1, hb1, hb2⟩ := dD w x.cells.toArray y.cells.toArray tPr tPr
 obtain ⟨es, he, hsub, hes⟩ : ∃ es : List PredE, Rd W1 9 (.slice x.la x.ln x.lc) es.length (es.flatMap PredE.cells) ∧ x.subs = es.map PredE.p ∧ ∀ e ∈ es, PredsRd W1 (.slice e.la e.ln e.lc) e.subs := by
  have k1 := h1.kept hk1
  generalize x.subs = xs at k1
  cases k1 with
  | mk _ es he hes => exact ⟨es, he, rfl, hes⟩
 obtain ⟨fs, hf, hsubf, hfs⟩ : ∃ es : List PredE, Rd W1 9 (.slice y.la y.ln y.lc) es.length (es.flatMap PredE.cells) ∧ y.subs = es.map PredE.p ∧ ∀ e ∈ es, PredsRd W1 (.slice e.la e.ln e.lc) e.subs := by
  have k1 := h2.kept hk1
  generalize y.subs = xs at k1
  cases k1 with
  | mk _ es he hes => exact ⟨es, he, rfl, hes⟩
 have vT := BO (show ∀ e ∈ es, ∀ f ∈ fs, ∀ W, Kept (fun _ => False) W1 W → Calls Tryz.prog 63 #[.agg e.cells.toArray, .agg f.cells.toArray] W fun r w' => r = .returned (.bool (bR e.p f.p)) ∧ Kept (fun _ => False) W w' from
  fun e hee f hff W hW => ih e.p (by rw [← hl, hsub]; exact List.mem_map.2 ⟨e, hee, rfl⟩) e f W rfl ((hes e hee).kept hW) ((hfs f hff).kept hW))
 have sR := BO hW1
 have sW := BO hk1
 have sZ := BO hb1
 have s7 := BO hb2
 have HE := BO he
 have HF := BO hf
 obtain ⟨_, hml, _, _, hsl, _⟩ := id he
 obtain ⟨_, hml2, _, _, hsl2, _⟩ := id hf
 unfold maxLen at hml hml2
 have tE := BO (Value.slice.inj hsl).2.1
 have zj := BO (Value.slice.inj hsl2).2.1
 have HP := BO (show bR x.p y.p = (decide (x.op = y.op) && decide (x.col = y.col) && decide (x.v = y.v) && decide (x.w = y.w) && cJ x.subs y.subs) from ly ..)
 rw [hsub, hsubf] at HP
 clear h1 h2 hW1 hk1 hb1 hb2 hx hl ih he hf hes hfs hsub hsubf hsl hsl2
 cases d0 : decide (x.op = y.op)
 ·have HR := BO (show bR x.p y.p = false by rw [HP.out, d0]; simp)
  have q0 : (x.op == y.op) = false := by simpa using d0
  have r0 : (x.op != y.op) = true := by simpa using d0
  clear d0 HP vT HE HF
  go_enter Tryz.func63, Tryz.ntmps63
  go_upto_region 1 with fail
  rw [← sR.out]
  clear sR
  generalize w.heap.size + 1 = b2 at s7 ⊢
  generalize w.heap.size = b1 at sZ ⊢
  obtain ⟨x0, x1, x2, x3, x4, x5, x6, x7, x8⟩ := aK sZ.out
  obtain ⟨y0, y1, y2, y3, y4, y5, y6, y7, y8⟩ := aK s7.out
  go_wp2_with fail
  go_ret
  exact ⟨by rw [HR.out]; rfl, sW.out⟩
 ·have q0 : (x.op == y.op) = true := by simpa using d0
  have r0 : (x.op != y.op) = false := by simpa using d0
  cases d1 : decide (x.col = y.col)
  ·have HR := BO (show bR x.p y.p = false by rw [HP.out, d0, d1]; simp)
   have q1 : (x.col == y.col) = false := by simpa using d1
   have r1 : (x.col != y.col) = true := by simpa using d1
   clear d0 d1 HP vT HE HF
   go_enter Tryz.func63, Tryz.ntmps63
   go_upto_region 1 with fail
   rw [← sR.out]
   clear sR
   generalize w.heap.size + 1 = b2 at s7 ⊢
   generalize w.heap.size = b1 at sZ ⊢
   obtain ⟨x0, x1, x2, x3, x4, x5, x6, x7, x8⟩ := aK sZ.out
   obtain ⟨y0, y1, y2, y3, y4, y5, y6, y7, y8⟩ := aK s7.out
   go_wp2_with fail
   go_ret
   exact ⟨by rw [HR.out]; rfl, sW.out⟩
  ·have q1 : (x.col == y.col) = true := by simpa using d1
   have r1 : (x.col != y.col) = false := by simpa using d1
   cases d2 : decide (x.v = y.v)
   ·have HR := BO (show bR x.p y.p = false by rw [HP.out, d0, d1, d2]; simp)
    have q2 : b6 x.v.t x.v.n x.v.s y.v.t y.v.n y.v.s = false := by rw [bH]; exact d2
    clear d0 d1 d2 HP vT HE HF
    go_enter Tryz.func63, Tryz.ntmps63
    go_upto_region 1 with fail
    rw [← sR.out]
    clear sR
    generalize w.heap.size + 1 = b2 at s7 ⊢
    generalize w.heap.size = b1 at sZ ⊢
    obtain ⟨x0, x1, x2, x3, x4, x5, x6, x7, x8⟩ := aK sZ.out
    obtain ⟨y0, y1, y2, y3, y4, y5, y6, y7, y8⟩ := aK s7.out
    go_wp2_with fail
    go_ret
    exact ⟨by rw [HR.out]; rfl, sW.out⟩
   ·have q2 : b6 x.v.t x.v.n x.v.s y.v.t y.v.n y.v.s = true := by rw [bH]; exact d2
    cases d3 : decide (x.w = y.w)
    ·have HR := BO (show bR x.p y.p = false by rw [HP.out, d0, d1, d2, d3]; simp)
     have q3 : b6 x.w.t x.w.n x.w.s y.w.t y.w.n y.w.s = false := by rw [bH]; exact d3
     clear d0 d1 d2 d3 HP vT HE HF
     go_enter Tryz.func63, Tryz.ntmps63
     go_upto_region 1 with fail
     rw [← sR.out]
     clear sR
     generalize w.heap.size + 1 = b2 at s7 ⊢
     generalize w.heap.size = b1 at sZ ⊢
     obtain ⟨x0, x1, x2, x3, x4, x5, x6, x7, x8⟩ := aK sZ.out
     obtain ⟨y0, y1, y2, y3, y4, y5, y6, y7, y8⟩ := aK s7.out
     go_wp2_with fail
     go_ret
     exact ⟨by rw [HR.out]; rfl, sW.out⟩
    ·have q3 : b6 x.w.t x.w.n x.w.s y.w.t y.w.n y.w.s = true := by rw [bH]; exact d3
     have yd := BO (show bR x.p y.p = cJ (es.map PredE.p) (fs.map PredE.p) by rw [HP.out, d0, d1, d2, d3]; simp)
     clear d0 d1 d2 d3 HP
     by_cases hlen : es.length = fs.length
     ·have tO := BO hlen.symm
      obtain ⟨N, hN⟩ : ∃ N, es.length = N := ⟨_, rfl⟩
      have HN := BO hN
      rw [hN] at tO tE HE hml
      rw [tO.out] at zj HF
      clear hlen hN hml2
      go_enter Tryz.func63, Tryz.ntmps63
      go_upto_region 1 with fail
      rw [← sR.out]
      clear sR
      generalize w.heap.size + 1 = b2 at s7 ⊢
      generalize w.heap.size = b1 at sZ ⊢
      obtain ⟨x0, x1, x2, x3, x4, x5, x6, x7, x8⟩ := aK sZ.out
      obtain ⟨y0, y1, y2, y3, y4, y5, y6, y7, y8⟩ := aK s7.out
      rw [tE.out] at x8
      rw [zj.out] at y8
      go_wp2_with fail
      go_loopw [5] (fun i wr => ∃ j : Nat, i = .int .i64 j ∧ j ≤ N ∧ (es.map PredE.p).take j = (fs.map PredE.p).take j ∧ Kept (fun _ => False) W1 wr) (fun i _ => N - (intOf i).toNat)
      case atStart => exact ⟨0, rfl, by omega, rfl, Kept.refl _ _⟩
      case round =>
       obtain ⟨j, rfl, hj, ht, hk⟩ := hrel
       have HT := BO ht
       have HK := BO hk
       clear ht hk x0 x1 x2 x3 x4 x5 x6 x7 x8 y0 y1 y2 y3 y4 y5 y6 y7 y8
       have x8 := (aK (aA HK.out sZ.out)).2.2.2.2.2.2.2.2
       have y8 := (aK (aA HK.out s7.out)).2.2.2.2.2.2.2.2
       rw [tE.out] at x8
       rw [zj.out] at y8
       by_cases hlt : j < N
       ·have hji : (j : Int) < (N : Int) := by omega
        obtain ⟨e, he⟩ : ∃ e, es[j]? = some e := ⟨es[j]'(by rw [HN.out]; exact hlt), List.getElem?_eq_getElem _⟩
        obtain ⟨f, hf⟩ : ∃ f, fs[j]? = some f := ⟨fs[j]'(by rw [tO.out]; exact hlt), List.getElem?_eq_getElem _⟩
        obtain ⟨g1, o1, hg1, hr1⟩ := aD PredE.len (by have := HE.out.kept HK.out (fun _ _ h => h); rw [tE.out] at this; exact this) he HN.out
        obtain ⟨g2, o2, hg2, hr2⟩ := aD PredE.len (by have := HF.out.kept HK.out (fun _ _ h => h); rw [zj.out] at this; exact this) hf tO.out
        rw [hg1] at x8
        rw [hg2] at y8
        have tA := BO (bu (w := wr.drew) hr1)
        have tU := BO (bu (w := wr.drew) hr2)
        have vQ := BO (show (es.map PredE.p)[j]? = some e.p by rw [List.getElem?_map, he]; rfl)
        have AX := BO (show (fs.map PredE.p)[j]? = some f.p by rw [List.getElem?_map, hf]; rfl)
        have HC := BO (vT.out e (List.mem_of_getElem? he) f (List.mem_of_getElem? hf) wr.drew HK.out.drew)
        clear he hf hg1 hg2 hr1 hr2
        cases hp : bR e.p f.p
        ·rw [hp] at HC
         have HR := BO (show cJ (es.map PredE.p) (fs.map PredE.p) = false by
          rw [Bool.eq_false_iff]
          intro h
          have h3 := cU.1 h
          have h4 := vQ.out
          rw [h3, AX.out] at h4
          rw [Option.some.inj h4, gm] at hp
          cases hp)
         clear hp
         go_upto_region 6 with fail
         refine af [(0, false, 10), (1, false, 10), (2, false, 10), (3, false, 10), (4, false, 10), (5, false, 10), (6, false, 10), (7, false, 10), (8, false, 10), (9, false, 10), (10, true, 0), (11, false, 999)] (by kernel_rfl) (by kernel_rfl) ?_
         iterate 10 (refine ae rfl rfl (fun K hK => ?_); (first | ((refine aj _ _ rfl _ _ rfl _ tA.out ?_); go_simp) | ((refine aj _ _ rfl _ _ rfl _ tU.out ?_); go_simp) | go_simp); refine hK _ ?_; clear hK K)
         refine al rfl ?_
         refine aw rfl (fun K hK => ?_)
         go_simp
         refine HC.out.mono ?_
         rintro r3 w3 ⟨rfl, hk3⟩
         have tn := BO (HK.out.drew.trans hk3 (fun _ h => h.elim))
         clear hk3 HC tA tU x8 y8
         refine hK _ _ ?_
         clear hK K
         refine wpList_nil ?_
         refine And.intro ?_ ?_
         ·go_simp
         refine ae rfl rfl (fun K hK => ?_); (first | ((refine aj _ _ rfl _ _ rfl _ tA.out ?_); go_simp) | ((refine aj _ _ rfl _ _ rfl _ tU.out ?_); go_simp) | go_simp); refine hK _ ?_; clear hK K
         refine ap ?_
         go_wp2_with fail
         go_ret
         exact ⟨by rw [yd.out, HR.out]; rfl, sW.out.trans tn.out (fun _ h => h.elim)⟩
        ·rw [hp] at HC
         have z9 := BO (d8.1 hp)
         clear hp
         go_upto_region 6 with fail
         refine af [(0, false, 10), (1, false, 10), (2, false, 10), (3, false, 10), (4, false, 10), (5, false, 10), (6, false, 10), (7, false, 10), (8, false, 10), (9, false, 10), (10, true, 0), (11, false, 999)] (by kernel_rfl) (by kernel_rfl) ?_
         iterate 10 (refine ae rfl rfl (fun K hK => ?_); (first | ((refine aj _ _ rfl _ _ rfl _ tA.out ?_); go_simp) | ((refine aj _ _ rfl _ _ rfl _ tU.out ?_); go_simp) | go_simp); refine hK _ ?_; clear hK K)
         refine al rfl ?_
         refine aw rfl (fun K hK => ?_)
         go_simp
         refine HC.out.mono ?_
         rintro r3 w3 ⟨rfl, hk3⟩
         have tn := BO (HK.out.drew.trans hk3 (fun _ h => h.elim))
         clear hk3 HC tA tU x8 y8
         refine hK _ _ ?_
         clear hK K
         refine wpList_nil ?_
         refine And.intro ?_ ?_
         ·go_simp
         refine ae rfl rfl (fun K hK => ?_); (first | ((refine aj _ _ rfl _ _ rfl _ tA.out ?_); go_simp) | ((refine aj _ _ rfl _ _ rfl _ tU.out ?_); go_simp) | go_simp); refine hK _ ?_; clear hK K
         refine ap ?_
         go_wp2_with fail
         go_roundw
         case rel => exact ⟨j + 1, by go_num, by omega, du HT.out vQ.out (by rw [AX.out, z9.out]), tn.out⟩
         case measure => simp [intOf]; omega
       ·have hji : ¬ ((j : Int) < (N : Int)) := by omega
        have HR := BO (show cJ (es.map PredE.p) (fs.map PredE.p) = true from cU.2 (ey HT.out (by rw [List.length_map, HN.out]; omega) (by rw [List.length_map, tO.out]; omega)))
        go_wp2_with fail
        go_ret
        exact ⟨by rw [yd.out, HR.out]; rfl, sW.out.trans HK.out (fun _ h => h.elim)⟩
     ·have hbe2 : ((es.length : Int) != (fs.length : Int)) = true := by simp; omega
      have hbe : ((es.length : Int) == (fs.length : Int)) = false := by simp; omega
      have HR := BO (show bR x.p y.p = false by
       rw [yd.out, Bool.eq_false_iff]
       intro h
       have := congrArg List.length (cU.1 h)
       simp at this
       exact hlen this)
      clear hlen vT HE HF
      go_enter Tryz.func63, Tryz.ntmps63
      go_upto_region 1 with fail
      rw [← sR.out]
      clear sR
      generalize w.heap.size + 1 = b2 at s7 ⊢
      generalize w.heap.size = b1 at sZ ⊢
      obtain ⟨x0, x1, x2, x3, x4, x5, x6, x7, x8⟩ := aK sZ.out
      obtain ⟨y0, y1, y2, y3, y4, y5, y6, y7, y8⟩ := aK s7.out
      rw [tE.out] at x8
      rw [zj.out] at y8
      go_wp2_with fail
      go_ret
      exact ⟨by rw [HR.out]; rfl, sW.out⟩
theorem ss {w : World} {v1 v2 : Value} {rs : List (List Val)} (h1 : RowsRd w v1 rs) (h2 : RowsRd w v2 rs) :
  Calls Tryz.prog 68 #[v1, v2] w fun e w' => e = .returned (.bool true) ∧ Kept (fun _ => False) w w' := by
 obtain ⟨a1, c1, rfl, n1, m1, _⟩ := h1.shape
 obtain ⟨a2, c2, rfl, n2, m2, _⟩ := h2.shape
 have H1 := BO h1
 have H2 := BO h2
 clear h1 h2
 obtain ⟨N, hN⟩ : ∃ N, rs.length = N := ⟨_, rfl⟩
 have HN := BO hN
 rw [hN] at H1 H2 n1 n2 m1 m2 ⊢
 clear hN
 go_enter Tryz.func68, Tryz.ntmps68
 go_wp2_with fail
 go_loopw [5] (fun i wr => ∃ j : Nat, i = .int .i64 j ∧ j ≤ N ∧ Kept (fun _ => False) w wr) (fun i _ => N - (intOf i).toNat)
 case atStart => exact ⟨0, rfl, by omega, Kept.refl _ _⟩
 case round =>
  obtain ⟨j, rfl, hj, hk⟩ := hrel
  have HK := BO hk
  clear hk
  by_cases hlt : j < N
  ·have hji : (j : Int) < (N : Int) := by omega
   obtain ⟨r, hr⟩ : ∃ r, rs[j]? = some r := ⟨rs[j]'(by rw [HN.out]; exact hlt), List.getElem?_eq_getElem _⟩
   obtain ⟨g1, o1, ra1, rc1, hg1, y1, hrow1, hl1, hrc1⟩ := eB (H1.out.kept HK.out) hr
   obtain ⟨g2, o2, ra2, rc2, hg2, y2, hrow2, hl2, hrc2⟩ := eB (H2.out.kept HK.out) hr
   subst hg1
   subst hg2
   have HC := BO (nl (w := wr.drew) (show cO wr.drew _ r from hrow1) (show cO wr.drew _ r from hrow2))
   have HD := BO (show decide (r = r) = true by simp)
   rw [HD.out] at HC
   clear hr hrow1 hrow2 HD
   generalize r.length = rl at *
   go_upto_region 6 with fail
   refine af [(0, false, 8), (1, false, 8), (2, false, 8), (3, false, 8), (4, false, 8), (5, false, 8), (6, false, 8), (7, false, 8), (8, true, 0), (9, false, 999)] (by kernel_rfl) (by kernel_rfl) ?_
   iterate 8 (refine ae rfl rfl (fun K hK => ?_); go_simp; refine hK _ ?_; clear hK K)
   refine al rfl ?_
   refine aw rfl (fun K hK => ?_)
   go_simp
   refine HC.out.mono ?_
   rintro e3 w3 ⟨rfl, n3, rfl⟩
   have tn := BO ((HK.out.drew).drewN n3)
   clear HC y1 y2
   generalize wr.drew.drewN n3 = w3 at tn ⊢
   refine hK _ _ ?_
   clear hK K
   refine wpList_nil ?_
   refine And.intro ?_ ?_
   ·go_simp
   refine ae rfl rfl (fun K hK => ?_); go_simp; refine hK _ ?_; clear hK K
   refine ap ?_
   go_wp2_with fail
   go_roundw
   case rel => exact ⟨j + 1, by go_num, by omega, tn.out⟩
   case measure => simp [intOf]; omega
  ·have hji : ¬ ((j : Int) < (N : Int)) := by omega
   go_wp2_with fail
   go_ret
   exact ⟨rfl, HK.out⟩
theorem qG {w : World} {x y : ClmE} (hx : RdCl w x) (hy : RdCl w y) (h : x.c = y.c) :
  Calls Tryz.prog 33 #[.agg x.cells.toArray, .agg y.cells.toArray] w fun e w' => e = .returned (.bool true) ∧ Kept (fun _ => False) w w' := by
 obtain ⟨W1, hW1, hk1, hb1, hb2⟩ := dD w x.cells.toArray y.cells.toArray tCl tCl
 have e1 : x.kind = y.kind := congrArg Clm.kind h
 have e2 : x.table = y.table := congrArg Clm.table h
 have e3 : x.mode = y.mode := congrArg Clm.mode h
 have e4 : x.key = y.key := congrArg Clm.key h
 have e5 : x.imgs = y.imgs := congrArg Clm.imgs h
 have e6 : x.pr.p = y.pr.p := congrArg Clm.pred h
 have HS := BO (lv x.pr.p x.pr y.pr W1 rfl (hx.2.kept hk1) (hy.2.kept hk1))
 rw [show bR x.pr.p y.pr.p = true by rw [e6]; exact gm _] at HS
 have zR := BO (hx.1.kept hk1)
 have Bq := BO (show RowsRd W1 (.slice y.ia y.il y.ic) x.imgs by rw [e5]; exact hy.1.kept hk1)
 have th := BO (bu (eF hb1))
 have tC := BO (bu (eF hb2))
 have sR := BO hW1
 have sW := BO hk1
 have sZ := BO hb1
 have s7 := BO hb2
 have q0 : (x.kind == y.kind) = true := by simpa using e1
 have q1 : (x.table == y.table) = true := by simpa using e2
 have q2 : (x.mode == y.mode) = true := by simpa using e3
 have q3 : b6 x.key.t x.key.n x.key.s y.key.t y.key.n y.key.s = true := by rw [bH]; simpa using e4
 clear hW1 hk1 hb1 hb2 hx hy h e1 e2 e3 e4 e5 e6
 go_enter Tryz.func33, Tryz.ntmps33
 go_upto_region 1 with fail
 rw [← sR.out]
 clear sR
 generalize w.heap.size + 1 = b2 at *
 generalize w.heap.size = b1 at *
 go_upto_region 2 with (first | (refine ag rfl _ _ rfl _ _ rfl _ th.out ?_) | (refine ag rfl _ _ rfl _ _ rfl _ tC.out ?_) | (go_at_call 63; refine HS.out.mono ?_; rintro r3 w3 ⟨rfl, hk3⟩; have tn := BO hk3; clear hk3 HS th tC))
 have yP := BO (ss (zR.out.kept tn.out) (Bq.out.kept tn.out))
 have x6 := (aW (aA tn.out sZ.out)).2
 have y6 := (aW (aA tn.out s7.out)).2
 go_upto_region 3 with (go_at_call 68; refine yP.out.mono ?_; rintro r4 w4 ⟨rfl, hk4⟩; have ud := BO (tn.out.trans hk4 (fun _ h => h.elim)); clear hk4 yP x6 y6)
 obtain ⟨x0, x1, x3, x4, x5⟩ := aY (aA ud.out sZ.out)
 obtain ⟨y0, y1, y3, y4, y5⟩ := aY (aA ud.out s7.out)
 have x2 := (aW (aA ud.out sZ.out)).1
 have y2 := (aW (aA ud.out s7.out)).1
 go_wp2_with fail
 go_ret
 exact ⟨rfl, sW.out.trans ud.out (fun _ h => h.elim)⟩
end Go.Proofs.YtgljdkjepdknnaaGreatDoor
namespace Go.Proofs.YtgljdkjepdknnaaGreatDoor
open Go.ChangeShapes Go.WideShapes Go.ChangeAt Go.RowKit Go.Deep
set_option maxRecDepth 100000
set_option linter.unusedSimpArgs false
instance : Inhabited PredE := ⟨⟨0, 0, ⟨false, 0, ⟨#[]⟩⟩, ⟨false, 0, ⟨#[]⟩⟩, none, 0, 0, []⟩⟩
instance : Inhabited ClmE := ⟨⟨0, 0, 0, ⟨false, 0, ⟨#[]⟩⟩, none, 0, 0, [], default⟩⟩
instance : Inhabited (Value × List Val) := ⟨(.int .i64 0, [])⟩
section
variable {H : Type} {enc : TypeId × Value → H} {P : Program} {w : World} {base : Nat} {spare : Nat → Bool} {held : Bool}
theorem io {α : Type} [Inhabited α] {f : α → List Value} {G : α → Prop} {size : Nat} {t e : TypeId} (ht : P.underlying t = some (.slice e)) (hsz : P.cellsOf e = size) (hpos : 0 < size) (hf : ∀ a, (f a).length = size)
  {fuel : Nat} (each : ∀ n, fuel = n + 1 → ∀ cs d, DataW.trod enc P w base spare held n e cs = some d → ∃ a : α, cs = f a ∧ G a)
  {cs : List Value} {x : DataW H × List MemPlace} (h : DataW.trod enc P w base spare held fuel t cs = some x) :
  ∃ (v : Value) (l : List α), cs = [v] ∧ Rd w size v l.length (l.flatMap f) ∧ ∀ a ∈ l, G a := by
 rcases DataW.trod_slice ht h with ⟨rfl, _⟩ | ⟨a, len, cap, elems, rest, n, hfu, rfl, _, hb, hl, hm, hlen, hel, _, _⟩
 ·exact ⟨_, [], rfl, Rd.nil _ _, fun a ha => by cases ha⟩
 ·rw [hsz] at hel
  obtain ⟨A, hA⟩ := choose_lt (α := α) (p := fun i b => w.cells? base (a.add (i * size)) size = some (f b) ∧ G b) (fun i (hi : i < len) => by
   have h1 := hel i hi
   rw [List.getElem?_eq_getElem (show i < elems.length by omega)] at h1
   obtain ⟨cs', h2, h3⟩ := Option.bind_eq_some_iff.1 h1
   obtain ⟨b, rfl, hg⟩ := each n hfu _ _ h3
   exact ⟨b, h2, hg⟩)
  have hlen : ((List.range len).map A).length = len := by simp
  have hget : ∀ i, i < len → ((List.range len).map A)[i]? = some (A i) := fun i hi => by simp [List.getElem?_map, List.getElem?_range hi]
  refine ⟨_, (List.range len).map A, rfl, ⟨by rw [ez hf], by rw [hlen]; omega, some a, cap, by rw [hlen], by rw [hlen]; omega, hm, fun h => by simp at h, ?_⟩, fun b hb => ?_⟩
  ·rw [hlen]
   by_cases h0 : len = 0
   ·exact .inl h0
   ·right
    obtain ⟨_, hl0, hc0⟩ := World.cells?_some (hA 0 (by omega)).1
    have h00 := hc0 0 hpos
    have hsome : ∃ u, (f (A 0))[0]? = some u := ⟨(f (A 0))[0]'(by rw [hf]; omega), List.getElem?_eq_getElem _⟩
    obtain ⟨u0, hu0⟩ := hsome
    rw [hu0] at h00
    obtain ⟨g, o, spot⟩ := a
    have hspot : spot = none := by simpa [Addr.add] using World.cell?_spot h00
    subst hspot
    refine ⟨g, o, rfl, fun j u hu => ?_⟩
    have hj : j < len * size := by
     have := (List.getElem?_eq_some_iff.1 hu).1
     rw [ez hf, hlen] at this
     exact this
    have hi : j / size < len := Nat.div_lt_of_lt_mul (by rw [Nat.mul_comm]; exact hj)
    have hr : j % size < size := Nat.mod_lt _ hpos
    have hjj : j / size * size + j % size = j := by rw [Nat.mul_comm]; exact Nat.div_add_mod j size
    obtain ⟨_, _, hc⟩ := World.cells?_some (hA _ hi).1
    have hu' : ∃ u', (f (A (j / size)))[j % size]? = some u' := ⟨(f (A (j / size)))[j % size]'(by rw [hf]; exact hr), List.getElem?_eq_getElem _⟩
    obtain ⟨u', hu'⟩ := hu'
    have := bF hf _ _ _ (hget _ hi) _ _ hu'
    rw [hjj, hu] at this
    obtain rfl := Option.some.inj this
    have h2 := hc _ hr
    rw [hu'] at h2
    rw [bZ, bZ, Nat.add_assoc, hjj] at h2
    exact h2
  ·obtain ⟨i, hi, rfl⟩ := List.mem_map.1 hb
   exact (hA i (by simpa using hi)).2
theorem rj {t : TypeId} {f0 f1 f2 f3 f4 : Field} {fuel : Nat} {cs : List Value} {x : DataW H × List MemPlace} (ht : P.underlying t = some (.struct #[f0, f1, f2, f3, f4])) (h : DataW.trod enc P w base spare held fuel t cs = some x) :
  ∃ y0 y1 y2 y3 y4 n, fuel = n + 1 ∧ cs.length = P.cellsOf t ∧ DataW.trod enc P w base spare held n f0.type ((cs.drop f0.offset).take (P.cellsOf f0.type)) = some y0 ∧ DataW.trod enc P w base spare held n f1.type ((cs.drop f1.offset).take (P.cellsOf f1.type)) = some y1 ∧
   DataW.trod enc P w base spare held n f2.type ((cs.drop f2.offset).take (P.cellsOf f2.type)) = some y2 ∧ DataW.trod enc P w base spare held n f3.type ((cs.drop f3.offset).take (P.cellsOf f3.type)) = some y3 ∧ DataW.trod enc P w base spare held n f4.type ((cs.drop f4.offset).take (P.cellsOf f4.type)) = some y4 := by
 obtain ⟨xs, n, hn, rfl, hl, hlen, hf⟩ := DataW.trod_struct ht h
 match xs, hlen with
 | [y0, y1, y2, y3, y4], _ => exact ⟨y0, y1, y2, y3, y4, n, hn, hl, by simpa using hf 0 f0 rfl, by simpa using hf 1 f1 rfl, by simpa using hf 2 f2 rfl, by simpa using hf 3 f3 rfl, by simpa using hf 4 f4 rfl⟩
theorem sj {t : TypeId} {f0 f1 f2 f3 f4 f5 : Field} {fuel : Nat} {cs : List Value} {x : DataW H × List MemPlace} (ht : P.underlying t = some (.struct #[f0, f1, f2, f3, f4, f5])) (h : DataW.trod enc P w base spare held fuel t cs = some x) :
  ∃ y0 y1 y2 y3 y4 y5 n, fuel = n + 1 ∧ cs.length = P.cellsOf t ∧ DataW.trod enc P w base spare held n f0.type ((cs.drop f0.offset).take (P.cellsOf f0.type)) = some y0 ∧ DataW.trod enc P w base spare held n f1.type ((cs.drop f1.offset).take (P.cellsOf f1.type)) = some y1 ∧
   DataW.trod enc P w base spare held n f2.type ((cs.drop f2.offset).take (P.cellsOf f2.type)) = some y2 ∧ DataW.trod enc P w base spare held n f3.type ((cs.drop f3.offset).take (P.cellsOf f3.type)) = some y3 ∧ DataW.trod enc P w base spare held n f4.type ((cs.drop f4.offset).take (P.cellsOf f4.type)) = some y4 ∧
   DataW.trod enc P w base spare held n f5.type ((cs.drop f5.offset).take (P.cellsOf f5.type)) = some y5 := by
 obtain ⟨xs, n, hn, rfl, hl, hlen, hf⟩ := DataW.trod_struct ht h
 match xs, hlen with
 | [y0, y1, y2, y3, y4, y5], _ => exact ⟨y0, y1, y2, y3, y4, y5, n, hn, hl, by simpa using hf 0 f0 rfl, by simpa using hf 1 f1 rfl, by simpa using hf 2 f2 rfl, by simpa using hf 3 f3 rfl, by simpa using hf 4 f4 rfl, by simpa using hf 5 f5 rfl⟩
theorem rA {t : TypeId} {f0 f1 f2 : Field} {fuel : Nat} {cs : List Value} {x : DataW H × List MemPlace} (ht : P.underlying t = some (.struct #[f0, f1, f2])) (h : DataW.trod enc P w base spare held fuel t cs = some x) :
  ∃ y0 y1 y2 n, fuel = n + 1 ∧ cs.length = P.cellsOf t ∧ DataW.trod enc P w base spare held n f0.type ((cs.drop f0.offset).take (P.cellsOf f0.type)) = some y0 ∧ DataW.trod enc P w base spare held n f1.type ((cs.drop f1.offset).take (P.cellsOf f1.type)) = some y1 ∧
   DataW.trod enc P w base spare held n f2.type ((cs.drop f2.offset).take (P.cellsOf f2.type)) = some y2 := by
 obtain ⟨xs, n, hn, rfl, hl, hlen, hf⟩ := DataW.trod_struct ht h
 match xs, hlen with
 | [y0, y1, y2], _ => exact ⟨y0, y1, y2, n, hn, hl, by simpa using hf 0 f0 rfl, by simpa using hf 1 f1 rfl, by simpa using hf 2 f2 rfl⟩
end
section
variable {H : Type} {enc : TypeId × Value → H} {w : World} {base : Nat} {spare : Nat → Bool} {held : Bool}
theorem gI : Tryz.prog.cellsOf 31 = 3 := by kernel_rfl
theorem iQ : Tryz.prog.cellsOf 3 = 1 := by kernel_rfl
theorem oP : Tryz.prog.cellsOf 29 = 1 := by kernel_rfl
theorem pN : Tryz.prog.cellsOf 2 = 1 := by kernel_rfl
theorem jW : Tryz.prog.cellsOf 4 = 1 := by kernel_rfl
theorem qM : Tryz.prog.cellsOf 9 = 1 := by kernel_rfl
theorem jV : Tryz.prog.cellsOf 35 = 9 := by kernel_rfl
theorem qO : Tryz.prog.cellsOf 33 = 1 := by kernel_rfl
theorem pM : Tryz.prog.cellsOf 91 = 1 := by kernel_rfl
theorem nS : Tryz.prog.cellsOf 32 = 1 := by kernel_rfl
theorem nm : Tryz.prog.cellsOf 37 = 16 := by kernel_rfl
theorem qX (l : List (Value × List Val)) : l.flatMap (fun a => [a.1]) = l.map Prod.fst := by
 induction l with
 | nil => rfl
 | cons x l ih => rw [List.flatMap_cons, ih]; rfl
end
theorem oe {v : Value} {l : List Value} (h : v.cells.toList = l) (hl : l.length ≠ 1) : v = .agg l.toArray := by
 cases v <;> simp [Value.cells] at h <;> subst h <;> simp at hl ⊢
theorem PredsAt.of_rd {w : World} {v : Value} {l : List PredT} (h : PredsRd w v l) : PredsAt (cD w) v l := by
 induction h with
 | mk v es h _ ih => exact .mk v es (RdP.of_rd h (by omega)) ih
theorem RowsAt.of_rd {w : World} {v : Value} {rs : List (List Val)} (h : RowsRd w v rs) : RowsAt (cD w) v rs := by
 obtain ⟨hs, h1, h2, h3⟩ := h
 refine ⟨hs, h1, fun u hu => ?_, RdP.of_rd h2 (by omega), fun i u r a b => RdP.of_rd (h3 i u r a b) (by omega)⟩
 obtain ⟨i, hi, rfl⟩ := List.mem_iff_getElem.1 hu
 obtain ⟨_, _, _, _, hv, _⟩ := h3 i _ (rs[i]'(by omega)) (List.getElem?_eq_getElem hi) (List.getElem?_eq_getElem (by omega))
 rw [hv]
 rfl
theorem ClOk.of_rd {w : World} {x : ClmE} (h : RdCl w x) : ClOk (cD w) x := ⟨RowsAt.of_rd h.1, PredsAt.of_rd h.2⟩
end Go.Proofs.YtgljdkjepdknnaaGreatDoor
namespace Go.Proofs.YtgljdkjepdknnaaGreatDoor
open Go.ChangeShapes Go.WideShapes Go.ChangeAt Go.RowKit
set_option maxRecDepth 100000
set_option linter.unusedSimpArgs false
theorem kJ (w : World) : (Instr.build tCl #[]).run Tryz.prog w = .ok (.agg cl0.cells.toArray) w := run_build w _ _ _ (by kernel_rfl)
theorem iw {w : World} {o : Oper} {a : Act} {ops : Array Oper} {rest : List Oper} {Q : Exit → Act → World → Prop} (hgd : Region.wanted o (yielded ops a.tmps) = true) (ho : o.op = .build tCl #[])
  (h : wpList Tryz.prog ops Q rest (a.put o.dst (.agg cl0.cells.toArray)) w) : wpList Tryz.prog ops Q (o :: rest) a w :=
 aw hgd fun _ hK => by
  have hrun := kJ w
  unfold Oper.wp execOp
  simp only [ho, List.map_toArray, List.map_nil, Sem.run_bind, Sem.run_pure, Result.andThen_ok, hrun]
  exact hK _ _ h
end Go.Proofs.YtgljdkjepdknnaaGreatDoor
