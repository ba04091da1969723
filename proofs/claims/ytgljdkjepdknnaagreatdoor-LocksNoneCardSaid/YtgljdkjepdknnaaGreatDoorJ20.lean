/- Joined texts: Is a claim one that is small (ratlinelaw11.flat, few). A queue of claims that is none. (printed by genref3.py) -/
import Derived.Test.YtgljdkjepdknnaaGreatDoorJ14
import Derived.Test.YtgljdkjepdknnaaGreatDoorJ17
/- Is a claim one that is small (ratlinelaw11.flat, few). -/
namespace Go.Proofs.YtgljdkjepdknnaaGreatDoor
open Go.ChangeShapes Go.WideShapes Go.ChangeAt Go.RowKit
set_option maxRecDepth 100000
set_option linter.unusedSimpArgs false

mutual
def PredT.flat : PredT → Nat → Bool
  | .mk _ _ _ _ l, d => decide (d ≤ 4) && decide (l.length ≤ 4) && PredT.flatL l (d + 1)
def PredT.flatL : List PredT → Nat → Bool
  | [], _ => true
  | p :: l, d => p.flat d && PredT.flatL l d
end
theorem flatL_all (d : Nat) : ∀ l : List PredT, PredT.flatL l d = l.all (fun p => p.flat d)
  | [] => rfl
  | p :: l => by unfold PredT.flatL; rw [flatL_all d l]; rfl
theorem PredT.flat_eq (op col : Int) (v w : Val) (l : List PredT) (d : Nat) : (PredT.mk op col v w l).flat d = (decide (d ≤ 4) && decide (l.length ≤ 4) && l.all (fun p => p.flat (d + 1))) := by
  conv => lhs; unfold PredT.flat
  rw [flatL_all]
theorem flat_sm : ∀ (p : PredT) (d : Nat), p.flat d = true → PredSm p := by
  refine PredT.ind fun op col v w l ih d h => ?_
  rw [PredT.flat_eq, Bool.and_eq_true, Bool.and_eq_true, decide_eq_true_eq, decide_eq_true_eq] at h
  exact .mk _ _ _ _ _ (by omega) (fun q hq => ih q hq (d + 1) (List.all_eq_true.1 h.2 q hq))
def fewB (c : Clm) : Bool := decide (c.imgs.length ≤ 6) && c.imgs.all (fun r => decide (r.length ≤ 6)) && c.pred.flat 0
theorem few_sm {c : Clm} (h : fewB c = true) : ClmSm 6 c := by
  unfold fewB at h
  rw [Bool.and_eq_true, Bool.and_eq_true, decide_eq_true_eq] at h
  refine ⟨h.1.1, fun r hr => ?_, flat_sm _ 0 h.2⟩
  have := of_decide_eq_true (List.all_eq_true.1 h.1.2 r hr)
  omega
set_option maxHeartbeats 4000000 in
theorem flat_ok : ∀ (p : PredT) (x : PredE) (d : Nat) (w : World), x.p = p → d ≤ 5 → PredsRd w (.slice x.la x.ln x.lc) x.subs →
    Calls Tryz.prog 56 #[.agg x.cells.toArray, .int .i64 d] w fun e w' => e = .returned (.bool (x.p.flat d)) ∧ Kept (fun _ => False) w w' := by
  refine PredT.ind fun op col v w0 l ih x d w hx hd5 h1 => ?_
  have hl : x.subs = l := by unfold PredE.p at hx; cases hx; rfl
  obtain ⟨W1, hW1, hk1, hb1⟩ : ∃ W, W = w.alloc (.cells x.cells.toArray tPr) ∧ Kept (fun _ => False) w W ∧ W.heap[w.heap.size]? = some (.cells x.cells.toArray tPr (0, 0)) := ⟨_, rfl, (Kept.refl _ _).alloc _, heap_alloc_self _ _⟩
  obtain ⟨es, he, hsub, hes⟩ : ∃ es : List PredE, Rd W1 9 (.slice x.la x.ln x.lc) es.length (es.flatMap PredE.cells) ∧ x.subs = es.map PredE.p ∧ ∀ e ∈ es, ∀ W, d + 1 ≤ 5 → Kept (fun _ => False) W1 W → Calls Tryz.prog 56 #[.agg e.cells.toArray, .int .i64 (d + 1 : Nat)] W fun r w' => r = .returned (.bool (e.p.flat (d + 1))) ∧ Kept (fun _ => False) W w' := by
    have k1 := h1.kept hk1
    generalize hxs : x.subs = xs at k1 hl
    cases k1 with
    | mk _ es he hes => exact ⟨es, he, rfl, fun e hee W hd hW => ih e.p (by rw [← hl]; exact List.mem_map.2 ⟨e, hee, rfl⟩) e (d + 1) W rfl hd ((hes e hee).kept hW)⟩
  have HP := Lib.hid (show x.p.flat d = _ from PredT.flat_eq x.op x.col x.v x.w x.subs d)
  rw [hsub, List.length_map, List.all_map] at HP
  have HW1 := Lib.hid hW1
  have HK1 := Lib.hid hk1
  have HB1 := Lib.hid hb1
  have HE := Lib.hid he
  have HES := Lib.hid hes
  obtain ⟨_, hml, _, _, hsl, hnc, _⟩ := id he
  unfold maxLen at hml
  have hln : x.ln = es.length := (Value.slice.inj hsl).2.1
  have HLN := Lib.hid hln
  clear h1 hW1 hk1 hb1 hx hl ih he hes hsub hsl hln hnc
  by_cases hd : d ≤ 4
  · by_cases hle : es.length ≤ 4
    · have HR := Lib.hid (show x.p.flat d = es.all (fun e => e.p.flat (d + 1)) by rw [HP.out, decide_eq_true hd, decide_eq_true hle]; rfl)
      rw [HR.out]
      have hdi : ¬ ((4 : Int) < (d : Int)) := by omega
      have hli : ¬ ((4 : Int) < (es.length : Int)) := by omega
      obtain ⟨N, hN⟩ : ∃ N, es.length = N := ⟨_, rfl⟩
      have HN := Lib.hid hN
      rw [hN] at HLN hml hli HE
      clear HP hN hle HR
      go_enter Tryz.func56, Tryz.ntmps56
      go_upto_region 1 with fail
      rw [← HW1.out]
      clear HW1
      generalize w.heap.size = b1 at HB1 ⊢
      obtain ⟨x0, x1, x2, x3, x4, x5, x6, x7, x8⟩ := boxPr HB1.out
      rw [HLN.out] at x8
      go_wp2_with fail
      go_loopw [5] (fun i wr => ∃ j : Nat, i = .int .i64 j ∧ j ≤ N ∧ (∀ e ∈ es.take j, e.p.flat (d + 1) = true) ∧ Kept (fun _ => False) W1 wr) (fun i _ => N - (intOf i).toNat)
      case atStart => exact ⟨0, rfl, by omega, fun e he => by simp at he, Kept.refl _ _⟩
      case round =>
        obtain ⟨j, rfl, hj, hall, hk⟩ := hrel
        have HALL := Lib.hid hall
        have HK := Lib.hid hk
        clear hall hk x0 x1 x2 x3 x4 x5 x6 x7 x8
        obtain ⟨x0, x1, x2, x3, x4, x5, x6, x7, x8⟩ := boxPr (kept_blk HK.out HB1.out)
        rw [HLN.out] at x8
        by_cases hlt : j < N
        · have hji : (j : Int) < (N : Int) := by omega
          obtain ⟨e, he⟩ : ∃ e, es[j]? = some e := ⟨es[j]'(by rw [HN.out]; exact hlt), List.getElem?_eq_getElem _⟩
          obtain ⟨g, og, hga, hrng⟩ := elem_range PredE.len (by have := HE.out.kept HK.out (fun _ _ h => h); rw [HLN.out] at this; exact this) he HN.out
          have HL := Lib.hid (loadPr hrng)
          rw [hga] at x8
          have HX := Lib.hid he
          have HC := Lib.hid (HES.out e (List.mem_of_getElem? he) wr (by omega) HK.out)
          clear he hga hrng
          cases hp : e.p.flat (d + 1)
          · rw [hp] at HC
            have HR := Lib.hid (show es.all (fun e => e.p.flat (d + 1)) = false from List.all_eq_false.2 ⟨e, List.mem_of_getElem? HX.out, by simp [hp]⟩)
            clear hp
            go_wp2_with (first | (refine wpList_ld rfl _ _ rfl _ _ rfl _ HL.out ?_) | (go_at_call 56; refine HC.out.mono ?_; rintro e1 w1 ⟨rfl, hk1⟩; have HK2 := Lib.hid (HK.out.trans hk1 (fun _ h => h.elim)); clear hk1 HC HL x0 x1 x2 x3 x4 x5 x6 x7 x8))
            go_ret
            exact ⟨by rw [HR.out]; rfl, HK1.out.trans HK2.out (fun _ h => h.elim)⟩
          · rw [hp] at HC
            have HPX := Lib.hid hp
            clear hp
            go_wp2_with (first | (refine wpList_ld rfl _ _ rfl _ _ rfl _ HL.out ?_) | (go_at_call 56; refine HC.out.mono ?_; rintro e1 w1 ⟨rfl, hk1⟩; have HK2 := Lib.hid (HK.out.trans hk1 (fun _ h => h.elim)); clear hk1 HC HL x0 x1 x2 x3 x4 x5 x6 x7 x8))
            go_roundw
            case rel => exact ⟨j + 1, by go_num, by omega, mem_take_succ HALL.out HX.out HPX.out, HK2.out⟩
            case measure => simp [intOf]; omega
        · have hji : ¬ ((j : Int) < (N : Int)) := by omega
          have HR := Lib.hid (show es.all (fun e => e.p.flat (d + 1)) = true from List.all_eq_true.2 (fun e he => HALL.out e (by rw [List.take_of_length_le (by rw [HN.out]; omega)]; exact he)))
          go_wp2_with fail
          go_ret
          exact ⟨by rw [HR.out]; rfl, HK1.out.trans HK.out (fun _ h => h.elim)⟩
    · have HR := Lib.hid (show x.p.flat d = false by rw [HP.out, decide_eq_false hle]; simp)
      have hdi : ¬ ((4 : Int) < (d : Int)) := by omega
      have hli : (4 : Int) < (es.length : Int) := by omega
      rw [HR.out]
      clear HP hle HE HES
      generalize es.length = N at *
      go_enter Tryz.func56, Tryz.ntmps56
      go_upto_region 1 with fail
      rw [← HW1.out]
      clear HW1
      generalize w.heap.size = b1 at HB1 ⊢
      obtain ⟨x0, x1, x2, x3, x4, x5, x6, x7, x8⟩ := boxPr HB1.out
      rw [HLN.out] at x8
      go_wp2_with fail
      go_ret
      exact ⟨rfl, HK1.out⟩
  · have HR := Lib.hid (show x.p.flat d = false by rw [HP.out, decide_eq_false hd]; simp)
    have hdi : (4 : Int) < (d : Int) := by omega
    rw [HR.out]
    clear HP hd HE HES
    go_enter Tryz.func56, Tryz.ntmps56
    go_upto_region 1 with fail
    rw [← HW1.out]
    clear HW1
    generalize w.heap.size = b1 at HB1 ⊢
    go_wp2_with fail
    go_ret
    exact ⟨rfl, HK1.out⟩
set_option maxHeartbeats 4000000 in
theorem few_ok {w : World} {x : ClmE} (hx : RdCl w x) : Calls Tryz.prog 23 #[.agg x.cells.toArray] w fun e w' => e = .returned (.bool (fewB x.c)) ∧ Kept (fun _ => False) w w' := by
  obtain ⟨W1, hW1, hk1, hb1⟩ : ∃ W, W = w.alloc (.cells x.cells.toArray tCl) ∧ Kept (fun _ => False) w W ∧ W.heap[w.heap.size]? = some (.cells x.cells.toArray tCl (0, 0)) := ⟨_, rfl, (Kept.refl _ _).alloc _, heap_alloc_self _ _⟩
  obtain ⟨ia, il, hil, hnc, hml, hcm⟩ := (hx.1.kept hk1).shape
  have HIL := Lib.hid (Value.slice.inj hil).2.1
  have HX := Lib.hid (hx.1.kept hk1)
  have HP := Lib.hid (show fewB x.c = (decide (x.imgs.length ≤ 6) && x.imgs.all (fun r => decide (r.length ≤ 6)) && x.pr.p.flat 0) from rfl)
  have HLP := Lib.hid (loadPr (boxClP hb1))
  have HFL := Lib.hid (flat_ok x.pr.p x.pr 0 W1 rfl (by omega) (hx.2.kept hk1))
  have x6 := (boxClm2 hb1).2
  rw [HIL.out] at x6
  have HW1 := Lib.hid hW1
  have HK1 := Lib.hid hk1
  clear hx hW1 hk1 hb1 hil
  by_cases hle : x.imgs.length ≤ 6
  · have hli : ¬ ((6 : Int) < (x.imgs.length : Int)) := by omega
    rw [HP.out, decide_eq_true hle, Bool.true_and]
    obtain ⟨N, hN⟩ : ∃ N, x.imgs.length = N := ⟨_, rfl⟩
    have HN := Lib.hid hN
    rw [hN] at x6 hli hml hnc
    rw [hN] at HIL
    clear HP hN hle
    go_enter Tryz.func23, Tryz.ntmps23
    go_upto_region 1 with fail
    rw [← HW1.out]
    clear HW1
    generalize w.heap.size = b1 at *
    go_wp2_with fail
    go_loop [3] (fun i => ∃ j : Nat, i = .int .i64 j ∧ j ≤ N ∧ ∀ r ∈ x.imgs.take j, decide (r.length ≤ 6) = true) (fun i => N - (intOf i).toNat)
    case atStart => exact ⟨0, rfl, by omega, fun r hr => by simp at hr⟩
    case round =>
      obtain ⟨j, rfl, hj, hall⟩ := hrel
      have HALL := Lib.hid hall
      clear hall
      by_cases hlt : j < N
      · have hji : (j : Int) < (N : Int) := by omega
        obtain ⟨r, hr⟩ : ∃ r, x.imgs[j]? = some r := ⟨x.imgs[j]'(by rw [HN.out]; exact hlt), List.getElem?_eq_getElem _⟩
        obtain ⟨g, og, ra, rc, hga, y0, hrow, hrl, hrc⟩ := rowAtR (by have := HX.out; rw [HIL.out] at this; exact this) hr
        rw [hga] at x6
        have HR := Lib.hid hr
        clear hr hrow hga
        by_cases hr6 : r.length ≤ 6
        · have hri : ¬ ((6 : Int) < (r.length : Int)) := by omega
          have HR6 := Lib.hid (decide_eq_true hr6)
          clear hr6
          go_wp2_with fail
          go_round
          case rel => exact ⟨j + 1, by go_num, by omega, mem_take_succ HALL.out HR.out HR6.out⟩
          case measure => simp [intOf]; omega
        · have hri : (6 : Int) < (r.length : Int) := by omega
          have HAL := Lib.hid (show (x.imgs.all (fun r => decide (r.length ≤ 6)) && x.pr.p.flat 0) = false by rw [List.all_eq_false.2 ⟨r, List.mem_of_getElem? HR.out, by simp; omega⟩]; rfl)
          clear hr6
          go_wp2_with fail
          go_ret
          exact ⟨by rw [HAL.out]; rfl, HK1.out⟩
      · have hji : ¬ ((j : Int) < (N : Int)) := by omega
        have HAL := Lib.hid (show (x.imgs.all (fun r => decide (r.length ≤ 6)) && x.pr.p.flat 0) = x.pr.p.flat 0 by rw [List.all_eq_true.2 (fun r hr => HALL.out r (by rw [List.take_of_length_le (by rw [HN.out]; omega)]; exact hr)), Bool.true_and])
        go_wp2_with (first | (refine wpList_ld rfl _ _ rfl _ _ rfl _ HLP.out ?_) | (go_at_call 56; refine HFL.out.mono ?_; rintro e1 w1 ⟨rfl, hk1⟩; have HK2 := Lib.hid (HK1.out.trans hk1 (fun _ h => h.elim)); clear hk1 HFL HLP x6))
        go_ret
        exact ⟨by rw [HAL.out]; rfl, HK2.out⟩
  · have hli : (6 : Int) < (x.imgs.length : Int) := by omega
    have HR := Lib.hid (show fewB x.c = false by rw [HP.out, decide_eq_false hle]; simp)
    rw [HR.out]
    clear HP hle HFL HLP HR
    generalize x.imgs.length = N at *
    go_enter Tryz.func23, Tryz.ntmps23
    go_upto_region 1 with fail
    rw [← HW1.out]
    clear HW1
    generalize w.heap.size = b1 at *
    go_wp2_with fail
    go_ret
    exact ⟨rfl, HK1.out⟩
end Go.Proofs.YtgljdkjepdknnaaGreatDoor

/- A queue of claims that is none. (printed by genref3.py) -/
namespace Go.Proofs.YtgljdkjepdknnaaGreatDoor
open Go.ChangeShapes Go.WideShapes Go.ChangeAt Go.RowKit
set_option maxRecDepth 100000
set_option linter.unusedSimpArgs false

theorem Holds_nil (o : Int) (w : World) : Calls Tryz.prog 49 #[.pointer none, .int .i64 o] w fun r w' => r = .returned (.slice none 0 0) ∧ Kept (fun _ => False) w w' := by
  go_enter Tryz.func49, Tryz.ntmps49
  go_wp2_with fail
  go_ret
  exact ⟨rfl, Kept.refl _ _⟩
theorem Blockers_nil (o : Int) (w : World) : Calls Tryz.prog 64 #[.pointer none, .int .i64 o] w fun r w' => r = .returned (.slice none 0 0) ∧ Kept (fun _ => False) w w' := by
  go_enter Tryz.func64, Tryz.ntmps64
  go_wp2_with fail
  go_ret
  exact ⟨rfl, ((Kept.refl _ _).alloc _).alloc _⟩
theorem Clear_nil (o : Int) (w : World) : Calls Tryz.prog 67 #[.pointer none, .int .i64 o] w fun r w' => r = .returned (.slice none 0 0) ∧ Kept (fun _ => False) w w' := by
  go_enter Tryz.func67, Tryz.ntmps67
  go_wp2_with fail
  go_ret
  exact ⟨rfl, (Kept.refl _ _).alloc _⟩
theorem Leave_nil (o : Int) (w : World) : Calls Tryz.prog 65 #[.pointer none, .int .i64 o] w fun r w' => r = .returned (.slice none 0 0) ∧ Kept (fun _ => False) w w' := by
  go_enter Tryz.func65, Tryz.ntmps65
  go_wp2_with fail
  go_ret
  exact ⟨rfl, (Kept.refl _ _).alloc _⟩
theorem Len_nil (w : World) : Calls Tryz.prog 44 #[.pointer none] w fun r w' => r = .returned (.int .i64 0) ∧ Kept (fun _ => False) w w' := by
  go_enter Tryz.func44, Tryz.ntmps44
  go_wp2_with fail
  go_ret
  exact ⟨rfl, Kept.refl _ _⟩
theorem Drop_nil (o : Int) (a : Option Addr) (n c : Nat) (w : World) : Calls Tryz.prog 95 #[.pointer none, .int .i64 o, .slice a n c] w fun r w' => r = .returned (.slice none 0 0) ∧ Kept (fun _ => False) w w' := by
  go_enter Tryz.func95, Tryz.ntmps95
  go_wp2_with fail
  go_ret
  exact ⟨rfl, (((Kept.refl _ _).alloc _).alloc _).alloc _⟩
theorem ask_nil (o : Int) (c : ClmE) (b : Bool) (w : World) : Calls Tryz.prog 87 #[.pointer none, .int .i64 o, .agg c.cells.toArray, .bool b] w fun r w' => r = .returned (.bool false) ∧ Kept (fun _ => False) w w' := by
  go_enter Tryz.func87, Tryz.ntmps87
  go_wp2_with fail
  go_ret
  exact ⟨rfl, (Kept.refl _ _).alloc _⟩
theorem Ask_nil (o : Int) (c : ClmE) (w : World) : Calls Tryz.prog 46 #[.pointer none, .int .i64 o, .agg c.cells.toArray] w fun r w' => r = .returned (.bool false) ∧ Kept (fun _ => False) w w' := by
  obtain ⟨W1, hW1, hk1, hb1⟩ : ∃ W, W = w.alloc (.cells c.cells.toArray tCl) ∧ Kept (fun _ => False) w W ∧ W.heap[w.heap.size]? = some (.cells c.cells.toArray tCl (0, 0)) := ⟨_, rfl, (Kept.refl _ _).alloc _, heap_alloc_self _ _⟩
  have HL := Lib.hid (loadCl (blk_range hb1))
  have HW1 := Lib.hid hW1
  have HK1 := Lib.hid hk1
  clear hW1 hk1 hb1
  go_enter Tryz.func46, Tryz.ntmps46
  go_upto_region 1 with fail
  rw [← HW1.out]
  clear HW1
  generalize w.heap.size = b1 at HL ⊢
  go_wp2_with (first | (refine wpList_ld rfl _ _ rfl _ _ rfl _ HL.out ?_) | (go_at_call 87; refine (ask_nil o c true _).mono ?_; rintro e1 w1 ⟨rfl, hk⟩; have HK2 := Lib.hid (HK1.out.trans hk (fun _ h => h.elim)); clear hk HL))
  go_ret
  exact ⟨rfl, HK2.out⟩
theorem Try_nil (o : Int) (c : ClmE) (w : World) : Calls Tryz.prog 51 #[.pointer none, .int .i64 o, .agg c.cells.toArray] w fun r w' => r = .returned (.bool false) ∧ Kept (fun _ => False) w w' := by
  obtain ⟨W1, hW1, hk1, hb1⟩ : ∃ W, W = w.alloc (.cells c.cells.toArray tCl) ∧ Kept (fun _ => False) w W ∧ W.heap[w.heap.size]? = some (.cells c.cells.toArray tCl (0, 0)) := ⟨_, rfl, (Kept.refl _ _).alloc _, heap_alloc_self _ _⟩
  have HL := Lib.hid (loadCl (blk_range hb1))
  have HW1 := Lib.hid hW1
  have HK1 := Lib.hid hk1
  clear hW1 hk1 hb1
  go_enter Tryz.func51, Tryz.ntmps51
  go_upto_region 1 with fail
  rw [← HW1.out]
  clear HW1
  generalize w.heap.size = b1 at HL ⊢
  go_wp2_with (first | (refine wpList_ld rfl _ _ rfl _ _ rfl _ HL.out ?_) | (go_at_call 87; refine (ask_nil o c false _).mono ?_; rintro e1 w1 ⟨rfl, hk⟩; have HK2 := Lib.hid (HK1.out.trans hk (fun _ h => h.elim)); clear hk HL))
  go_ret
  exact ⟨rfl, HK2.out⟩
set_option maxHeartbeats 1000000 in
theorem Waits_nil {B w : World} {D : PH} {l : List HP} (o : Int) (h : Sat B D w l) : Calls Tryz.prog 42 #[.pointer none, .int .i64 o] w fun r w' => r = .returned (.tuple #[.agg cl0.cells.toArray, .bool false]) ∧ Sat B D w' l := by
  obtain ⟨W0, hW0, hs0⟩ := two_new h cZ cZ tCl tCl
  have HW0 := Lib.hid hW0
  have HL := Lib.hid (loadCl (x := cl0) (blk_range (hs0.blk 1 rfl)))
  have HS0 := Lib.hid hs0
  clear h hW0 hs0
  go_enter Tryz.func42, Tryz.ntmps42
  go_upto_region 2 with fail
  rw [← HW0.out]
  clear HW0
  generalize w.heap.size + 1 = b2 at *
  generalize w.heap.size = b1 at *
  go_wp2_with (first | (refine wpList_ld rfl _ _ rfl _ _ rfl _ HL.out ?_) | (refine wpList_store_whole rfl _ _ _ rfl tCl b1 rfl cl0.cells rfl cZ HS0.out (by kernel_rfl) rfl (ClmE.one _) ?_; intro w6 hs6; have HS6 := Lib.hid hs6; clear hs6 HS0 HL))
  refine bodyPost_ret (results_c2 rfl _ _ rfl (loadCl (blk_range (HS6.out.blk 0 rfl)))) rfl ?_
  exact ⟨rfl, HS6.out.drop.drop⟩
end Go.Proofs.YtgljdkjepdknnaaGreatDoor
