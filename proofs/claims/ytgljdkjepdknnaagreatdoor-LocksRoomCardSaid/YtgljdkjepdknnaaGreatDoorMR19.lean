/- Joined texts: Is a claim one that is small (ratlinelaw11.flat, few). A queue of claims that is none. (printed by genref3.py) The document's answer: are two predicates the same (ratlineref03.Same). (printed by genref3.py) The document's answer: two claims that are the same in all are told so (ratlineref02.Rows, ratlineref09.Equal). -/
import Derived.Test.YtgljdkjepdknnaaGreatDoorMR14
import Derived.Test.YtgljdkjepdknnaaGreatDoorMR17
import Derived.Test.YtgljdkjepdknnaaGreatDoorMR7
import Derived.Test.YtgljdkjepdknnaaGreatDoorMR11
import Derived.Test.YtgljdkjepdknnaaGreatDoorMR12
/- Is a claim one that is small (ratlinelaw11.flat, few). -/
namespace Go.Proofs.YtgljdkjepdknnaaGreatDoor
open Go.ChangeShapes Go.WideShapes Go.ChangeAt Go.RowKit
set_option maxRecDepth 100000
set_option linter.unusedSimpArgs false

mutual
def PredT.flat : PredT → Nat → Bool
 | .mk _ _ _ _ l, d => decide (d ≤ 4) && decide (l.length ≤ 4) && PredT.flatL l (d + 1)
def PredT.flatL : List PredT → Nat → Bool
 | [], _ => true
 | p :: l, d => p.flat d && PredT.flatL l d
end
theorem flatL_all (d : Nat) : ∀ l : List PredT, PredT.flatL l d = l.all (fun p => p.flat d)
 | [] => rfl
 | p :: l => by unfold PredT.flatL; rw [flatL_all d l]; rfl
theorem PredT.flat_eq (op col : Int) (v w : Val) (l : List PredT) (d : Nat) : (PredT.mk op col v w l).flat d = (decide (d ≤ 4) && decide (l.length ≤ 4) && l.all (fun p => p.flat (d + 1))) := by
 conv => lhs; unfold PredT.flat
 rw [flatL_all]
theorem flat_sm : ∀ (p : PredT) (d : Nat), p.flat d = true → PredSm p := by
 refine PredT.ind fun op col v w l ih d h => ?_
 rw [PredT.flat_eq, Bool.and_eq_true, Bool.and_eq_true, decide_eq_true_eq, decide_eq_true_eq] at h
 exact .mk _ _ _ _ _ (by omega) (fun q hq => ih q hq (d + 1) (List.all_eq_true.1 h.2 q hq))
def fewB (c : Clm) : Bool := decide (c.imgs.length ≤ 6) && c.imgs.all (fun r => decide (r.length ≤ 6)) && c.pred.flat 0
theorem few_sm {c : Clm} (h : fewB c = true) : ClmSm 6 c := by
 unfold fewB at h
 rw [Bool.and_eq_true, Bool.and_eq_true, decide_eq_true_eq] at h
 refine ⟨h.1.1, fun r hr => ?_, flat_sm _ 0 h.2⟩
 have := of_decide_eq_true (List.all_eq_true.1 h.1.2 r hr)
 omega
set_option maxHeartbeats 4000000 in
theorem flat_ok : ∀ (p : PredT) (x : PredE) (d : Nat) (w : World), x.p = p → d ≤ 5 → PredsRd w (.slice x.la x.ln x.lc) x.subs →
  Calls Tryz.prog 56 #[.agg x.cells.toArray, .int .i64 d] w fun e w' => e = .returned (.bool (x.p.flat d)) ∧ Kept (fun _ => False) w w' := by
 refine PredT.ind fun op col v w0 l ih x d w hx hd5 h1 => ?_
 have hl : x.subs = l := by unfold PredE.p at hx; cases hx; rfl
 obtain ⟨W1, hW1, hk1, hb1⟩ : ∃ W, W = w.alloc (.cells x.cells.toArray tPr) ∧ Kept (fun _ => False) w W ∧ W.heap[w.heap.size]? = some (.cells x.cells.toArray tPr (0, 0)) := ⟨_, rfl, (Kept.refl _ _).alloc _, heap_alloc_self _ _⟩
 obtain ⟨es, he, hsub, hes⟩ : ∃ es : List PredE, Rd W1 9 (.slice x.la x.ln x.lc) es.length (es.flatMap PredE.cells) ∧ x.subs = es.map PredE.p ∧ ∀ e ∈ es, ∀ W, d + 1 ≤ 5 → Kept (fun _ => False) W1 W → Calls Tryz.prog 56 #[.agg e.cells.toArray, .int .i64 (d + 1 : Nat)] W fun r w' => r = .returned (.bool (e.p.flat (d + 1))) ∧ Kept (fun _ => False) W w' := by
  have k1 := h1.kept hk1
  generalize hxs : x.subs = xs at k1 hl
  cases k1 with
  | mk _ es he hes => exact ⟨es, he, rfl, fun e hee W hd hW => ih e.p (by rw [← hl]; exact List.mem_map.2 ⟨e, hee, rfl⟩) e (d + 1) W rfl hd ((hes e hee).kept hW)⟩
 have HP := Lib.hid (show x.p.flat d = _ from PredT.flat_eq x.op x.col x.v x.w x.subs d)
 rw [hsub, List.length_map, List.all_map] at HP
 have HW1 := Lib.hid hW1
 have HK1 := Lib.hid hk1
 have HB1 := Lib.hid hb1
 have HE := Lib.hid he
 have HES := Lib.hid hes
 obtain ⟨_, hml, _, _, hsl, hnc, _⟩ := id he
 unfold maxLen at hml
 have hln : x.ln = es.length := (Value.slice.inj hsl).2.1
 have HLN := Lib.hid hln
 clear h1 hW1 hk1 hb1 hx hl ih he hes hsub hsl hln hnc
 by_cases hd : d ≤ 4
 ·by_cases hle : es.length ≤ 4
  ·have HR := Lib.hid (show x.p.flat d = es.all (fun e => e.p.flat (d + 1)) by rw [HP.out, decide_eq_true hd, decide_eq_true hle]; rfl)
   rw [HR.out]
   have hdi : ¬ ((4 : Int) < (d : Int)) := by omega
   have hli : ¬ ((4 : Int) < (es.length : Int)) := by omega
   obtain ⟨N, hN⟩ : ∃ N, es.length = N := ⟨_, rfl⟩
   have HN := Lib.hid hN
   rw [hN] at HLN hml hli HE
   clear HP hN hle HR
   go_enter Tryz.func56, Tryz.ntmps56
   go_upto_region 1 with fail
   rw [← HW1.out]
   clear HW1
   generalize w.heap.size = b1 at HB1 ⊢
   obtain ⟨x0, x1, x2, x3, x4, x5, x6, x7, x8⟩ := boxPr HB1.out
   rw [HLN.out] at x8
   go_wp2_with fail
   go_loopw [5] (fun i wr => ∃ j : Nat, i = .int .i64 j ∧ j ≤ N ∧ (∀ e ∈ es.take j, e.p.flat (d + 1) = true) ∧ Kept (fun _ => False) W1 wr) (fun i _ => N - (intOf i).toNat)
   case atStart => exact ⟨0, rfl, by omega, fun e he => by simp at he, Kept.refl _ _⟩
   case round =>
    obtain ⟨j, rfl, hj, hall, hk⟩ := hrel
    have HALL := Lib.hid hall
    have HK := Lib.hid hk
    clear hall hk x0 x1 x2 x3 x4 x5 x6 x7 x8
    obtain ⟨x0, x1, x2, x3, x4, x5, x6, x7, x8⟩ := boxPr (kept_blk HK.out HB1.out)
    rw [HLN.out] at x8
    by_cases hlt : j < N
    ·have hji : (j : Int) < (N : Int) := by omega
     obtain ⟨e, he⟩ : ∃ e, es[j]? = some e := ⟨es[j]'(by rw [HN.out]; exact hlt), List.getElem?_eq_getElem _⟩
     obtain ⟨g, og, hga, hrng⟩ := elem_range PredE.len (by have := HE.out.kept HK.out (fun _ _ h => h); rw [HLN.out] at this; exact this) he HN.out
     have HL := Lib.hid (loadPr hrng)
     rw [hga] at x8
     have HX := Lib.hid he
     have HC := Lib.hid (HES.out e (List.mem_of_getElem? he) wr (by omega) HK.out)
     clear he hga hrng
     cases hp : e.p.flat (d + 1)
     ·rw [hp] at HC
      have HR := Lib.hid (show es.all (fun e => e.p.flat (d + 1)) = false from List.all_eq_false.2 ⟨e, List.mem_of_getElem? HX.out, by simp [hp]⟩)
      clear hp
      go_wp2_with (first | (refine wpList_ld rfl _ _ rfl _ _ rfl _ HL.out ?_) | (go_at_call 56; refine HC.out.mono ?_; rintro e1 w1 ⟨rfl, hk1⟩; have HK2 := Lib.hid (HK.out.trans hk1 (fun _ h => h.elim)); clear hk1 HC HL x0 x1 x2 x3 x4 x5 x6 x7 x8))
      go_ret
      exact ⟨by rw [HR.out]; rfl, HK1.out.trans HK2.out (fun _ h => h.elim)⟩
     ·rw [hp] at HC
      have HPX := Lib.hid hp
      clear hp
      go_wp2_with (first | (refine wpList_ld rfl _ _ rfl _ _ rfl _ HL.out ?_) | (go_at_call 56; refine HC.out.mono ?_; rintro e1 w1 ⟨rfl, hk1⟩; have HK2 := Lib.hid (HK.out.trans hk1 (fun _ h => h.elim)); clear hk1 HC HL x0 x1 x2 x3 x4 x5 x6 x7 x8))
      go_roundw
      case rel => exact ⟨j + 1, by go_num, by omega, mem_take_succ HALL.out HX.out HPX.out, HK2.out⟩
      case measure => simp [intOf]; omega
    ·have hji : ¬ ((j : Int) < (N : Int)) := by omega
     have HR := Lib.hid (show es.all (fun e => e.p.flat (d + 1)) = true from List.all_eq_true.2 (fun e he => HALL.out e (by rw [List.take_of_length_le (by rw [HN.out]; omega)]; exact he)))
     go_wp2_with fail
     go_ret
     exact ⟨by rw [HR.out]; rfl, HK1.out.trans HK.out (fun _ h => h.elim)⟩
  ·have HR := Lib.hid (show x.p.flat d = false by rw [HP.out, decide_eq_false hle]; simp)
   have hdi : ¬ ((4 : Int) < (d : Int)) := by omega
   have hli : (4 : Int) < (es.length : Int) := by omega
   rw [HR.out]
   clear HP hle HE HES
   generalize es.length = N at *
   go_enter Tryz.func56, Tryz.ntmps56
   go_upto_region 1 with fail
   rw [← HW1.out]
   clear HW1
   generalize w.heap.size = b1 at HB1 ⊢
   obtain ⟨x0, x1, x2, x3, x4, x5, x6, x7, x8⟩ := boxPr HB1.out
   rw [HLN.out] at x8
   go_wp2_with fail
   go_ret
   exact ⟨rfl, HK1.out⟩
 ·have HR := Lib.hid (show x.p.flat d = false by rw [HP.out, decide_eq_false hd]; simp)
  have hdi : (4 : Int) < (d : Int) := by omega
  rw [HR.out]
  clear HP hd HE HES
  go_enter Tryz.func56, Tryz.ntmps56
  go_upto_region 1 with fail
  rw [← HW1.out]
  clear HW1
  generalize w.heap.size = b1 at HB1 ⊢
  go_wp2_with fail
  go_ret
  exact ⟨rfl, HK1.out⟩
set_option maxHeartbeats 4000000 in
theorem few_ok {w : World} {x : ClmE} (hx : RdCl w x) : Calls Tryz.prog 23 #[.agg x.cells.toArray] w fun e w' => e = .returned (.bool (fewB x.c)) ∧ Kept (fun _ => False) w w' := by
 obtain ⟨W1, hW1, hk1, hb1⟩ : ∃ W, W = w.alloc (.cells x.cells.toArray tCl) ∧ Kept (fun _ => False) w W ∧ W.heap[w.heap.size]? = some (.cells x.cells.toArray tCl (0, 0)) := ⟨_, rfl, (Kept.refl _ _).alloc _, heap_alloc_self _ _⟩
 obtain ⟨ia, il, hil, hnc, hml, hcm⟩ := (hx.1.kept hk1).shape
 have HIL := Lib.hid (Value.slice.inj hil).2.1
 have HX := Lib.hid (hx.1.kept hk1)
 have HP := Lib.hid (show fewB x.c = (decide (x.imgs.length ≤ 6) && x.imgs.all (fun r => decide (r.length ≤ 6)) && x.pr.p.flat 0) from rfl)
 have HLP := Lib.hid (loadPr (boxClP hb1))
 have HFL := Lib.hid (flat_ok x.pr.p x.pr 0 W1 rfl (by omega) (hx.2.kept hk1))
 have x6 := (boxClm2 hb1).2
 rw [HIL.out] at x6
 have HW1 := Lib.hid hW1
 have HK1 := Lib.hid hk1
 clear hx hW1 hk1 hb1 hil
 by_cases hle : x.imgs.length ≤ 6
 ·have hli : ¬ ((6 : Int) < (x.imgs.length : Int)) := by omega
  rw [HP.out, decide_eq_true hle, Bool.true_and]
  obtain ⟨N, hN⟩ : ∃ N, x.imgs.length = N := ⟨_, rfl⟩
  have HN := Lib.hid hN
  rw [hN] at x6 hli hml hnc
  rw [hN] at HIL
  clear HP hN hle
  go_enter Tryz.func23, Tryz.ntmps23
  go_upto_region 1 with fail
  rw [← HW1.out]
  clear HW1
  generalize w.heap.size = b1 at *
  go_wp2_with fail
  go_loop [3] (fun i => ∃ j : Nat, i = .int .i64 j ∧ j ≤ N ∧ ∀ r ∈ x.imgs.take j, decide (r.length ≤ 6) = true) (fun i => N - (intOf i).toNat)
  case atStart => exact ⟨0, rfl, by omega, fun r hr => by simp at hr⟩
  case round =>
   obtain ⟨j, rfl, hj, hall⟩ := hrel
   have HALL := Lib.hid hall
   clear hall
   by_cases hlt : j < N
   ·have hji : (j : Int) < (N : Int) := by omega
    obtain ⟨r, hr⟩ : ∃ r, x.imgs[j]? = some r := ⟨x.imgs[j]'(by rw [HN.out]; exact hlt), List.getElem?_eq_getElem _⟩
    obtain ⟨g, og, ra, rc, hga, y0, hrow, hrl, hrc⟩ := rowAtR (by have := HX.out; rw [HIL.out] at this; exact this) hr
    rw [hga] at x6
    have HR := Lib.hid hr
    clear hr hrow hga
    by_cases hr6 : r.length ≤ 6
    ·have hri : ¬ ((6 : Int) < (r.length : Int)) := by omega
     have HR6 := Lib.hid (decide_eq_true hr6)
     clear hr6
     go_wp2_with fail
     go_round
     case rel => exact ⟨j + 1, by go_num, by omega, mem_take_succ HALL.out HR.out HR6.out⟩
     case measure => simp [intOf]; omega
    ·have hri : (6 : Int) < (r.length : Int) := by omega
     have HAL := Lib.hid (show (x.imgs.all (fun r => decide (r.length ≤ 6)) && x.pr.p.flat 0) = false by rw [List.all_eq_false.2 ⟨r, List.mem_of_getElem? HR.out, by simp; omega⟩]; rfl)
     clear hr6
     go_wp2_with fail
     go_ret
     exact ⟨by rw [HAL.out]; rfl, HK1.out⟩
   ·have hji : ¬ ((j : Int) < (N : Int)) := by omega
    have HAL := Lib.hid (show (x.imgs.all (fun r => decide (r.length ≤ 6)) && x.pr.p.flat 0) = x.pr.p.flat 0 by rw [List.all_eq_true.2 (fun r hr => HALL.out r (by rw [List.take_of_length_le (by rw [HN.out]; omega)]; exact hr)), Bool.true_and])
    go_wp2_with (first | (refine wpList_ld rfl _ _ rfl _ _ rfl _ HLP.out ?_) | (go_at_call 56; refine HFL.out.mono ?_; rintro e1 w1 ⟨rfl, hk1⟩; have HK2 := Lib.hid (HK1.out.trans hk1 (fun _ h => h.elim)); clear hk1 HFL HLP x6))
    go_ret
    exact ⟨by rw [HAL.out]; rfl, HK2.out⟩
 ·have hli : (6 : Int) < (x.imgs.length : Int) := by omega
  have HR := Lib.hid (show fewB x.c = false by rw [HP.out, decide_eq_false hle]; simp)
  rw [HR.out]
  clear HP hle HFL HLP HR
  generalize x.imgs.length = N at *
  go_enter Tryz.func23, Tryz.ntmps23
  go_upto_region 1 with fail
  rw [← HW1.out]
  clear HW1
  generalize w.heap.size = b1 at *
  go_wp2_with fail
  go_ret
  exact ⟨rfl, HK1.out⟩
end Go.Proofs.YtgljdkjepdknnaaGreatDoor

/- A queue of claims that is none. (printed by genref3.py) -/
namespace Go.Proofs.YtgljdkjepdknnaaGreatDoor
open Go.ChangeShapes Go.WideShapes Go.ChangeAt Go.RowKit
set_option maxRecDepth 100000
set_option linter.unusedSimpArgs false

end Go.Proofs.YtgljdkjepdknnaaGreatDoor

/- The document's answer: are two predicates the same (ratlineref03.Same). (printed by genref3.py) -/
namespace Go.Proofs.YtgljdkjepdknnaaGreatDoor
open Go.ChangeShapes Go.WideShapes Go.ChangeAt Go.RowKit
set_option maxRecDepth 100000
set_option linter.unusedSimpArgs false

set_option maxHeartbeats 8000000 in
theorem rpSame_ok : ∀ (p : PredT) (x y : PredE) (w : World), x.p = p → PredsRd w (.slice x.la x.ln x.lc) x.subs → PredsRd w (.slice y.la y.ln y.lc) y.subs →
  Calls Tryz.prog 63 #[.agg x.cells.toArray, .agg y.cells.toArray] w fun r w' => r = .returned (.bool (predEq x.p y.p)) ∧ Kept (fun _ => False) w w' := by
 refine PredT.ind fun op col v w0 l ih x y w hx h1 h2 => ?_
 have hl : x.subs = l := by unfold PredE.p at hx; cases hx; rfl
 obtain ⟨W1, hW1, hk1, hb1, hb2⟩ := alloc2p w x.cells.toArray y.cells.toArray tPr tPr
 obtain ⟨es, he, hsub, hes⟩ : ∃ es : List PredE, Rd W1 9 (.slice x.la x.ln x.lc) es.length (es.flatMap PredE.cells) ∧ x.subs = es.map PredE.p ∧ ∀ e ∈ es, PredsRd W1 (.slice e.la e.ln e.lc) e.subs := by
  have k1 := h1.kept hk1
  generalize x.subs = xs at k1
  cases k1 with
  | mk _ es he hes => exact ⟨es, he, rfl, hes⟩
 obtain ⟨fs, hf, hsubf, hfs⟩ : ∃ es : List PredE, Rd W1 9 (.slice y.la y.ln y.lc) es.length (es.flatMap PredE.cells) ∧ y.subs = es.map PredE.p ∧ ∀ e ∈ es, PredsRd W1 (.slice e.la e.ln e.lc) e.subs := by
  have k1 := h2.kept hk1
  generalize y.subs = xs at k1
  cases k1 with
  | mk _ es he hes => exact ⟨es, he, rfl, hes⟩
 have HIH := Lib.hid (show ∀ e ∈ es, ∀ f ∈ fs, ∀ W, Kept (fun _ => False) W1 W → Calls Tryz.prog 63 #[.agg e.cells.toArray, .agg f.cells.toArray] W fun r w' => r = .returned (.bool (predEq e.p f.p)) ∧ Kept (fun _ => False) W w' from
  fun e hee f hff W hW => ih e.p (by rw [← hl, hsub]; exact List.mem_map.2 ⟨e, hee, rfl⟩) e f W rfl ((hes e hee).kept hW) ((hfs f hff).kept hW))
 have HW1 := Lib.hid hW1
 have HK1 := Lib.hid hk1
 have HB1 := Lib.hid hb1
 have HB2 := Lib.hid hb2
 have HE := Lib.hid he
 have HF := Lib.hid hf
 obtain ⟨_, hml, _, _, hsl, _⟩ := id he
 obtain ⟨_, hml2, _, _, hsl2, _⟩ := id hf
 unfold maxLen at hml hml2
 have HLN := Lib.hid (Value.slice.inj hsl).2.1
 have HLM := Lib.hid (Value.slice.inj hsl2).2.1
 have HP := Lib.hid (show predEq x.p y.p = (decide (x.op = y.op) && decide (x.col = y.col) && decide (x.v = y.v) && decide (x.w = y.w) && predEqL x.subs y.subs) from predEq_mk ..)
 rw [hsub, hsubf] at HP
 clear h1 h2 hW1 hk1 hb1 hb2 hx hl ih he hf hes hfs hsub hsubf hsl hsl2
 cases d0 : decide (x.op = y.op)
 ·have HR := Lib.hid (show predEq x.p y.p = false by rw [HP.out, d0]; simp)
  have q0 : (x.op == y.op) = false := by simpa using d0
  have r0 : (x.op != y.op) = true := by simpa using d0
  clear d0 HP HIH HE HF
  go_enter Tryz.func63, Tryz.ntmps63
  go_upto_region 1 with fail
  rw [← HW1.out]
  clear HW1
  generalize w.heap.size + 1 = b2 at HB2 ⊢
  generalize w.heap.size = b1 at HB1 ⊢
  obtain ⟨x0, x1, x2, x3, x4, x5, x6, x7, x8⟩ := boxPr HB1.out
  obtain ⟨y0, y1, y2, y3, y4, y5, y6, y7, y8⟩ := boxPr HB2.out
  go_wp2_with fail
  go_ret
  exact ⟨by rw [HR.out]; rfl, HK1.out⟩
 ·have q0 : (x.op == y.op) = true := by simpa using d0
  have r0 : (x.op != y.op) = false := by simpa using d0
  cases d1 : decide (x.col = y.col)
  ·have HR := Lib.hid (show predEq x.p y.p = false by rw [HP.out, d0, d1]; simp)
   have q1 : (x.col == y.col) = false := by simpa using d1
   have r1 : (x.col != y.col) = true := by simpa using d1
   clear d0 d1 HP HIH HE HF
   go_enter Tryz.func63, Tryz.ntmps63
   go_upto_region 1 with fail
   rw [← HW1.out]
   clear HW1
   generalize w.heap.size + 1 = b2 at HB2 ⊢
   generalize w.heap.size = b1 at HB1 ⊢
   obtain ⟨x0, x1, x2, x3, x4, x5, x6, x7, x8⟩ := boxPr HB1.out
   obtain ⟨y0, y1, y2, y3, y4, y5, y6, y7, y8⟩ := boxPr HB2.out
   go_wp2_with fail
   go_ret
   exact ⟨by rw [HR.out]; rfl, HK1.out⟩
  ·have q1 : (x.col == y.col) = true := by simpa using d1
   have r1 : (x.col != y.col) = false := by simpa using d1
   cases d2 : decide (x.v = y.v)
   ·have HR := Lib.hid (show predEq x.p y.p = false by rw [HP.out, d0, d1, d2]; simp)
    have q2 : valEqB x.v.t x.v.n x.v.s y.v.t y.v.n y.v.s = false := by rw [valEqB_val]; exact d2
    clear d0 d1 d2 HP HIH HE HF
    go_enter Tryz.func63, Tryz.ntmps63
    go_upto_region 1 with fail
    rw [← HW1.out]
    clear HW1
    generalize w.heap.size + 1 = b2 at HB2 ⊢
    generalize w.heap.size = b1 at HB1 ⊢
    obtain ⟨x0, x1, x2, x3, x4, x5, x6, x7, x8⟩ := boxPr HB1.out
    obtain ⟨y0, y1, y2, y3, y4, y5, y6, y7, y8⟩ := boxPr HB2.out
    go_wp2_with fail
    go_ret
    exact ⟨by rw [HR.out]; rfl, HK1.out⟩
   ·have q2 : valEqB x.v.t x.v.n x.v.s y.v.t y.v.n y.v.s = true := by rw [valEqB_val]; exact d2
    cases d3 : decide (x.w = y.w)
    ·have HR := Lib.hid (show predEq x.p y.p = false by rw [HP.out, d0, d1, d2, d3]; simp)
     have q3 : valEqB x.w.t x.w.n x.w.s y.w.t y.w.n y.w.s = false := by rw [valEqB_val]; exact d3
     clear d0 d1 d2 d3 HP HIH HE HF
     go_enter Tryz.func63, Tryz.ntmps63
     go_upto_region 1 with fail
     rw [← HW1.out]
     clear HW1
     generalize w.heap.size + 1 = b2 at HB2 ⊢
     generalize w.heap.size = b1 at HB1 ⊢
     obtain ⟨x0, x1, x2, x3, x4, x5, x6, x7, x8⟩ := boxPr HB1.out
     obtain ⟨y0, y1, y2, y3, y4, y5, y6, y7, y8⟩ := boxPr HB2.out
     go_wp2_with fail
     go_ret
     exact ⟨by rw [HR.out]; rfl, HK1.out⟩
    ·have q3 : valEqB x.w.t x.w.n x.w.s y.w.t y.w.n y.w.s = true := by rw [valEqB_val]; exact d3
     have HR0 := Lib.hid (show predEq x.p y.p = predEqL (es.map PredE.p) (fs.map PredE.p) by rw [HP.out, d0, d1, d2, d3]; simp)
     clear d0 d1 d2 d3 HP
     by_cases hlen : es.length = fs.length
     ·have HLEN := Lib.hid hlen.symm
      obtain ⟨N, hN⟩ : ∃ N, es.length = N := ⟨_, rfl⟩
      have HN := Lib.hid hN
      rw [hN] at HLEN HLN HE hml
      rw [HLEN.out] at HLM HF
      clear hlen hN hml2
      go_enter Tryz.func63, Tryz.ntmps63
      go_upto_region 1 with fail
      rw [← HW1.out]
      clear HW1
      generalize w.heap.size + 1 = b2 at HB2 ⊢
      generalize w.heap.size = b1 at HB1 ⊢
      obtain ⟨x0, x1, x2, x3, x4, x5, x6, x7, x8⟩ := boxPr HB1.out
      obtain ⟨y0, y1, y2, y3, y4, y5, y6, y7, y8⟩ := boxPr HB2.out
      rw [HLN.out] at x8
      rw [HLM.out] at y8
      go_wp2_with fail
      go_loopw [5] (fun i wr => ∃ j : Nat, i = .int .i64 j ∧ j ≤ N ∧ (es.map PredE.p).take j = (fs.map PredE.p).take j ∧ Kept (fun _ => False) W1 wr) (fun i _ => N - (intOf i).toNat)
      case atStart => exact ⟨0, rfl, by omega, rfl, Kept.refl _ _⟩
      case round =>
       obtain ⟨j, rfl, hj, ht, hk⟩ := hrel
       have HT := Lib.hid ht
       have HK := Lib.hid hk
       clear ht hk x0 x1 x2 x3 x4 x5 x6 x7 x8 y0 y1 y2 y3 y4 y5 y6 y7 y8
       have x8 := (boxPr (kept_blk HK.out HB1.out)).2.2.2.2.2.2.2.2
       have y8 := (boxPr (kept_blk HK.out HB2.out)).2.2.2.2.2.2.2.2
       rw [HLN.out] at x8
       rw [HLM.out] at y8
       by_cases hlt : j < N
       ·have hji : (j : Int) < (N : Int) := by omega
        obtain ⟨e, he⟩ : ∃ e, es[j]? = some e := ⟨es[j]'(by rw [HN.out]; exact hlt), List.getElem?_eq_getElem _⟩
        obtain ⟨f, hf⟩ : ∃ f, fs[j]? = some f := ⟨fs[j]'(by rw [HLEN.out]; exact hlt), List.getElem?_eq_getElem _⟩
        obtain ⟨g1, o1, hg1, hr1⟩ := elem_range PredE.len (by have := HE.out.kept HK.out (fun _ _ h => h); rw [HLN.out] at this; exact this) he HN.out
        obtain ⟨g2, o2, hg2, hr2⟩ := elem_range PredE.len (by have := HF.out.kept HK.out (fun _ _ h => h); rw [HLM.out] at this; exact this) hf HLEN.out
        rw [hg1] at x8
        rw [hg2] at y8
        have HL1 := Lib.hid (loadPr (w := wr.drew) hr1)
        have HL2 := Lib.hid (loadPr (w := wr.drew) hr2)
        have HXE := Lib.hid (show (es.map PredE.p)[j]? = some e.p by rw [List.getElem?_map, he]; rfl)
        have HXF := Lib.hid (show (fs.map PredE.p)[j]? = some f.p by rw [List.getElem?_map, hf]; rfl)
        have HC := Lib.hid (HIH.out e (List.mem_of_getElem? he) f (List.mem_of_getElem? hf) wr.drew HK.out.drew)
        clear he hf hg1 hg2 hr1 hr2
        cases hp : predEq e.p f.p
        ·rw [hp] at HC
         have HR := Lib.hid (show predEqL (es.map PredE.p) (fs.map PredE.p) = false by
          rw [Bool.eq_false_iff]
          intro h
          have h3 := predEqL_iff.1 h
          have h4 := HXE.out
          rw [h3, HXF.out] at h4
          rw [Option.some.inj h4, predEq_self] at hp
          cases hp)
         clear hp
         go_upto_region 6 with fail
         refine wp_region_canon [(0, false, 10), (1, false, 10), (2, false, 10), (3, false, 10), (4, false, 10), (5, false, 10), (6, false, 10), (7, false, 10), (8, false, 10), (9, false, 10), (10, true, 0), (11, false, 999)] (by kernel_rfl) (by kernel_rfl) ?_
         iterate 10 (refine wpCan_read rfl rfl (fun K hK => ?_); (first | ((refine still_ld _ _ rfl _ _ rfl _ HL1.out ?_); go_simp) | ((refine still_ld _ _ rfl _ _ rfl _ HL2.out ?_); go_simp) | go_simp); refine hK _ ?_; clear hK K)
         refine wpCan_eff rfl ?_
         refine wpList_do rfl (fun K hK => ?_)
         go_simp
         refine HC.out.mono ?_
         rintro r3 w3 ⟨rfl, hk3⟩
         have HK3 := Lib.hid (HK.out.drew.trans hk3 (fun _ h => h.elim))
         clear hk3 HC HL1 HL2 x8 y8
         refine hK _ _ ?_
         clear hK K
         refine wpList_nil ?_
         refine And.intro ?_ ?_
         ·go_simp
         iterate 1 (refine wpCan_read rfl rfl (fun K hK => ?_); (first | ((refine still_ld _ _ rfl _ _ rfl _ HL1.out ?_); go_simp) | ((refine still_ld _ _ rfl _ _ rfl _ HL2.out ?_); go_simp) | go_simp); refine hK _ ?_; clear hK K)
         refine wpCan_nil ?_
         go_wp2_with fail
         go_ret
         exact ⟨by rw [HR0.out, HR.out]; rfl, HK1.out.trans HK3.out (fun _ h => h.elim)⟩
        ·rw [hp] at HC
         have HPE := Lib.hid (predEq_iff.1 hp)
         clear hp
         go_upto_region 6 with fail
         refine wp_region_canon [(0, false, 10), (1, false, 10), (2, false, 10), (3, false, 10), (4, false, 10), (5, false, 10), (6, false, 10), (7, false, 10), (8, false, 10), (9, false, 10), (10, true, 0), (11, false, 999)] (by kernel_rfl) (by kernel_rfl) ?_
         iterate 10 (refine wpCan_read rfl rfl (fun K hK => ?_); (first | ((refine still_ld _ _ rfl _ _ rfl _ HL1.out ?_); go_simp) | ((refine still_ld _ _ rfl _ _ rfl _ HL2.out ?_); go_simp) | go_simp); refine hK _ ?_; clear hK K)
         refine wpCan_eff rfl ?_
         refine wpList_do rfl (fun K hK => ?_)
         go_simp
         refine HC.out.mono ?_
         rintro r3 w3 ⟨rfl, hk3⟩
         have HK3 := Lib.hid (HK.out.drew.trans hk3 (fun _ h => h.elim))
         clear hk3 HC HL1 HL2 x8 y8
         refine hK _ _ ?_
         clear hK K
         refine wpList_nil ?_
         refine And.intro ?_ ?_
         ·go_simp
         iterate 1 (refine wpCan_read rfl rfl (fun K hK => ?_); (first | ((refine still_ld _ _ rfl _ _ rfl _ HL1.out ?_); go_simp) | ((refine still_ld _ _ rfl _ _ rfl _ HL2.out ?_); go_simp) | go_simp); refine hK _ ?_; clear hK K)
         refine wpCan_nil ?_
         go_wp2_with fail
         go_roundw
         case rel => exact ⟨j + 1, by go_num, by omega, take_succ_eq HT.out HXE.out (by rw [HXF.out, HPE.out]), HK3.out⟩
         case measure => simp [intOf]; omega
       ·have hji : ¬ ((j : Int) < (N : Int)) := by omega
        have HR := Lib.hid (show predEqL (es.map PredE.p) (fs.map PredE.p) = true from predEqL_iff.2 (take_all_eq HT.out (by rw [List.length_map, HN.out]; omega) (by rw [List.length_map, HLEN.out]; omega)))
        go_wp2_with fail
        go_ret
        exact ⟨by rw [HR0.out, HR.out]; rfl, HK1.out.trans HK.out (fun _ h => h.elim)⟩
     ·have hbe2 : ((es.length : Int) != (fs.length : Int)) = true := by simp; omega
      have hbe : ((es.length : Int) == (fs.length : Int)) = false := by simp; omega
      have HR := Lib.hid (show predEq x.p y.p = false by
       rw [HR0.out, Bool.eq_false_iff]
       intro h
       have := congrArg List.length (predEqL_iff.1 h)
       simp at this
       exact hlen this)
      clear hlen HIH HE HF
      go_enter Tryz.func63, Tryz.ntmps63
      go_upto_region 1 with fail
      rw [← HW1.out]
      clear HW1
      generalize w.heap.size + 1 = b2 at HB2 ⊢
      generalize w.heap.size = b1 at HB1 ⊢
      obtain ⟨x0, x1, x2, x3, x4, x5, x6, x7, x8⟩ := boxPr HB1.out
      obtain ⟨y0, y1, y2, y3, y4, y5, y6, y7, y8⟩ := boxPr HB2.out
      rw [HLN.out] at x8
      rw [HLM.out] at y8
      go_wp2_with fail
      go_ret
      exact ⟨by rw [HR.out]; rfl, HK1.out⟩
end Go.Proofs.YtgljdkjepdknnaaGreatDoor

/- The document's answer: two claims that are the same in all are told so (ratlineref02.Rows, ratlineref09.Equal). -/
namespace Go.Proofs.YtgljdkjepdknnaaGreatDoor
open Go.ChangeShapes Go.WideShapes Go.ChangeAt Go.RowKit
set_option maxRecDepth 100000
set_option linter.unusedSimpArgs false

end Go.Proofs.YtgljdkjepdknnaaGreatDoor
