/- Joined texts: The document's answer: are two rows of numbers the same (ratlineref10.Ints). EqualFunc over predicates. Are two predicates the same (pred.Same). Are two claims about one thing (claim.Same). -/
import Derived.Test.YtgljdkjepdknnaaGreatDoorMR2
import Derived.Test.YtgljdkjepdknnaaGreatDoorMR6
/- The document's answer: are two rows of numbers the same (ratlineref10.Ints). -/
namespace Go.Proofs.YtgljdkjepdknnaaGreatDoor
open Go.ChangeShapes Go.WideShapes Go.ChangeAt Go.RowKit
set_option maxRecDepth 100000
set_option linter.unusedSimpArgs false

theorem take_succ_eq {α : Type} {l1 l2 : List α} {k : Nat} {a : α} (h : l1.take k = l2.take k) (h1 : l1[k]? = some a) (h2 : l2[k]? = some a) : l1.take (k + 1) = l2.take (k + 1) := by
 rw [List.take_add_one, List.take_add_one, h, h1, h2]
theorem take_all_eq {α : Type} {l1 l2 : List α} {k : Nat} (h : l1.take k = l2.take k) (h1 : l1.length ≤ k) (h2 : l2.length ≤ k) : l1 = l2 := by
 rw [List.take_of_length_le h1, List.take_of_length_le h2] at h
 exact h
/-- numbers are read -/
abbrev IntsRd (w : World) (v : Value) (l : List Int) : Prop := Rd w 1 v l.length (l.map (Value.int .i64))
set_option maxHeartbeats 4000000 in
theorem Ints_ok {w : World} {v1 v2 : Value} {l1 l2 : List Int} (h1 : IntsRd w v1 l1) (h2 : IntsRd w v2 l2) :
  Calls Tryz.prog 30 #[v1, v2] w fun e w' => e = .returned (.bool (decide (l1 = l2))) ∧ ∃ n, w' = w.drewN n := by
 obtain ⟨_, m1, a1, c1, rfl, n1, _, _, g1⟩ := h1
 obtain ⟨_, m2, a2, c2, rfl, n2, _, _, g2⟩ := h2
 unfold maxLen at m1 m2
 by_cases hlen : l1.length = l2.length
 ·rw [← hlen] at g2
  have G1 := Lib.hid g1
  have G2 := Lib.hid g2
  clear g1 g2
  generalize hL : l1.length = L at *
  rw [← hlen]
  go_enter Tryz.func30, Tryz.ntmps30
  go_wp2_with fail
  go_loopw [5] (fun i wr => ∃ k : Nat, i = .int .i64 k ∧ k ≤ L ∧ l1.take k = l2.take k ∧ ∃ n, wr = w.drewN n) (fun i _ => L - (intOf i).toNat)
  case atStart => exact ⟨0, rfl, by omega, rfl, 0, rfl⟩
  case round =>
   obtain ⟨k, rfl, hk, ht, n0, rfl⟩ := hrel
   have HT := Lib.hid ht
   clear ht
   by_cases hlt : k < L
   ·obtain ⟨a, ha⟩ : ∃ a, l1[k]? = some a := ⟨l1[k]'(by omega), List.getElem?_eq_getElem (by omega)⟩
    obtain ⟨b, hb⟩ : ∃ b, l2[k]? = some b := ⟨l2[k]'(by omega), List.getElem?_eq_getElem (by omega)⟩
    rcases G1.out with h0 | ⟨b1, o1, rfl, hc1⟩
    ·omega
    rcases G2.out with h0 | ⟨b2, o2, rfl, hc2⟩
    ·omega
    have x0 := hc1 k _ (by rw [List.getElem?_map, ha]; rfl)
    have y0 := hc2 k _ (by rw [List.getElem?_map, hb]; rfl)
    have HA := Lib.hid ha
    have HB := Lib.hid hb
    clear ha hb hc1 hc2
    by_cases hab : a = b
    ·subst hab
     go_wp2_with fail
     go_quiet (fail)
     go_wp2_with fail
     go_roundw
     case rel => exact ⟨k + 1, by go_num, by omega, take_succ_eq HT.out HA.out HB.out, _, rfl⟩
     case measure => simp [intOf]; omega
    ·have hv : (a == b) = false := by simpa using hab
     have hv2 : (a != b) = true := by simpa using hab
     have hne : decide (l1 = l2) = false := decide_eq_false (fun e => by
      have h1 := HA.out
      have h2 := HB.out
      rw [e, h2] at h1
      exact hab (Option.some.inj h1).symm)
     have HNE := Lib.hid hne
     clear hne hab
     go_wp2_with fail
     go_quiet (fail)
     go_wp2_with fail
     go_ret
     exact ⟨by rw [HNE.out]; rfl, _, World.drewN_drewN _ _ _⟩
   ·have heq : decide (l1 = l2) = true := decide_eq_true (take_all_eq HT.out (by omega) (by omega))
    have HEQ := Lib.hid heq
    clear heq
    go_wp2_with fail
    go_ret
    exact ⟨by rw [HEQ.out]; rfl, n0, rfl⟩
 ·have hne : decide (l1 = l2) = false := decide_eq_false (fun e => hlen (by rw [e]))
  have hbe : ((l1.length : Int) == (l2.length : Int)) = false := by simp; omega
  have HNE := Lib.hid hne
  clear hne g1 g2
  go_enter Tryz.func30, Tryz.ntmps30
  go_wp2_with fail
  go_ret
  exact ⟨by rw [HNE.out]; rfl, 0, rfl⟩
end Go.Proofs.YtgljdkjepdknnaaGreatDoor

/- EqualFunc over predicates. -/
namespace Go.Proofs.YtgljdkjepdknnaaGreatDoor
open Go.ChangeShapes Go.WideShapes Go.ChangeAt Go.RowKit
set_option maxRecDepth 100000
set_option linter.unusedSimpArgs false

@[go_sem] theorem sizePr (x : PredE) : x.cells.toArray.size = 9 := rfl
theorem loadPr {w : World} {g o : Nat} {x : PredE} (h : w.rangeAt g o x.cells) : (loadVar tPr ⟨g, o, none⟩).run Tryz.prog w = .ok (.agg x.cells.toArray) w := run_loadVar_mid w g o _ _ _ h Tryz.underlying35 rfl (by kernel_rfl)
set_option maxHeartbeats 4000000 in
theorem equalFunc_ok {w : World} {v1 v2 : Value} {es fs : List PredE} (h1 : Rd w 9 v1 es.length (es.flatMap PredE.cells)) (h2 : Rd w 9 v2 fs.length (fs.flatMap PredE.cells))
  (HF : ∀ e ∈ es, ∀ f ∈ fs, ∀ W, Kept (fun _ => False) w W → Calls Tryz.prog 114 #[.agg e.cells.toArray, .agg f.cells.toArray] W fun r W' => r = .returned (.bool (predEq e.p f.p)) ∧ Kept (fun _ => False) W W') :
  Calls Tryz.prog 158 #[v1, v2, .func (.func 114) #[] #[]] w fun r w' => r = .returned (.bool (predEqL (es.map PredE.p) (fs.map PredE.p))) ∧ Kept (fun _ => False) w w' := by
 obtain ⟨_, m1, a1, c1, rfl, n1, _⟩ := id h1
 obtain ⟨_, m2, a2, c2, rfl, n2, _⟩ := id h2
 unfold maxLen at m1 m2
 have H1 := Lib.hid h1
 have H2 := Lib.hid h2
 have HFF := Lib.hid HF
 clear h1 h2 HF
 by_cases hlen : es.length = fs.length
 ·have HLEN := Lib.hid hlen.symm
  obtain ⟨N, hN⟩ : ∃ N, es.length = N := ⟨_, rfl⟩
  rw [← hlen] at H2 n2 m2 ⊢
  rw [hN] at H1 H2 n1 n2 m1 m2 HLEN ⊢
  have HN := Lib.hid hN
  clear hlen hN
  go_enter Tryz.func158, Tryz.ntmps158
  go_wp2_with fail
  go_loopw [17] (fun ii wr2 => ∃ j : Nat, ii = .int .i64 j ∧ j ≤ N ∧ (es.map PredE.p).take j = (fs.map PredE.p).take j ∧ Kept (fun _ => False) w wr2) (fun ii _ => N - (intOf ii).toNat)
  case atStart => exact ⟨0, rfl, by omega, rfl, Kept.refl _ _⟩
  case round =>
   obtain ⟨j, rfl, hj, ht, hk⟩ := hrel
   have HT := Lib.hid ht
   have HK := Lib.hid hk
   clear ht hk
   by_cases hlt : j < N
   ·have hji : (j : Int) < (N : Int) := by omega
    obtain ⟨e, he⟩ : ∃ e, es[j]? = some e := ⟨es[j]'(by rw [HN.out]; exact hlt), List.getElem?_eq_getElem _⟩
    obtain ⟨f, hf⟩ : ∃ f, fs[j]? = some f := ⟨fs[j]'(by rw [HLEN.out]; exact hlt), List.getElem?_eq_getElem _⟩
    obtain ⟨g1, o1, rfl, hr1⟩ := elem_range PredE.len (H1.out.kept HK.out (fun _ _ h => h)) he HN.out
    have HL1 := Lib.hid (loadPr hr1)
    have HE := Lib.hid (show (es.map PredE.p)[j]? = some e.p by rw [List.getElem?_map, he]; rfl)
    have HF2 := Lib.hid (show (fs.map PredE.p)[j]? = some f.p by rw [List.getElem?_map, hf]; rfl)
    have HFS := Lib.hid hf
    have HME := Lib.hid (List.mem_of_getElem? he)
    obtain ⟨W1, hW1, hk1, hb1⟩ : ∃ W, W = wr.alloc (.cells e.cells.toArray tPr) ∧ Kept (fun _ => False) wr W ∧ W.heap[wr.heap.size]? = some (.cells e.cells.toArray tPr (0, 0)) := ⟨_, rfl, (Kept.refl _ _).alloc _, heap_alloc_self _ _⟩
    have HW1 := Lib.hid hW1
    have HK1 := Lib.hid (HK.out.trans hk1 (fun _ h => h.elim))
    have HB1 := Lib.hid hb1
    clear he hf hr1 hW1 hk1 hb1
    go_upto_region 6 with (first | (refine wpList_ld rfl _ _ rfl _ _ rfl _ HL1.out ?_) | (refine wpList_store_new rfl _ _ _ rfl e.cells _ _ rfl rfl (by kernel_rfl) rfl (PredE.one e) ?_))
    rw [← HW1.out]
    clear HW1 HL1
    generalize wr.heap.size = b1 at HB1 ⊢
    obtain ⟨g2, o2, rfl, hr2⟩ := elem_range PredE.len (H2.out.kept HK1.out (fun _ _ h => h)) HFS.out HLEN.out
    have HL2 := Lib.hid (loadPr hr2)
    obtain ⟨W2, hW2, hk2, hb2⟩ : ∃ W, W = W1.alloc (.cells f.cells.toArray tPr) ∧ Kept (fun _ => False) W1 W ∧ W.heap[W1.heap.size]? = some (.cells f.cells.toArray tPr (0, 0)) := ⟨_, rfl, (Kept.refl _ _).alloc _, heap_alloc_self _ _⟩
    have HW2 := Lib.hid hW2
    have HK2 := Lib.hid (HK1.out.trans hk2 (fun _ h => h.elim))
    have HBA := Lib.hid (loadPr (blk_range ((hk2.block b1 (lt_of_heap HB1.out) (fun h => h)).trans HB1.out)))
    have HBB := Lib.hid (loadPr (blk_range hb2))
    have HC := Lib.hid (HFF.out e HME.out f (List.mem_of_getElem? HFS.out) W2 HK2.out)
    clear hr2 hW2 hk2 hb2
    go_upto_region 7 with (first | (refine wpList_ld rfl _ _ rfl _ _ rfl _ HL2.out ?_) | (refine wpList_store_new rfl _ _ _ rfl f.cells _ _ rfl rfl (by kernel_rfl) rfl (PredE.one f) ?_))
    rw [← HW2.out]
    clear HW2 HL2
    generalize W1.heap.size = b2 at HBB ⊢
    cases hp : predEq e.p f.p
    ·rw [hp] at HC
     have HR := Lib.hid (show predEqL (es.map PredE.p) (fs.map PredE.p) = false by
      rw [Bool.eq_false_iff]
      intro h
      have h3 := predEqL_iff.1 h
      have h4 := HE.out
      rw [h3, HF2.out] at h4
      rw [Option.some.inj h4, predEq_self] at hp
      cases hp)
     clear hp
     go_wp2_with (first | (refine wpList_ld rfl _ _ rfl _ _ rfl _ HBA.out ?_) | (refine wpList_ld rfl _ _ rfl _ _ rfl _ HBB.out ?_) | (go_at_call 114; refine HC.out.mono ?_; rintro r3 w3 ⟨rfl, hk3⟩; have HK3 := Lib.hid (HK2.out.trans hk3 (fun _ h => h.elim)); clear hk3 HC HBA HBB))
     go_ret
     exact ⟨by rw [HR.out]; rfl, HK3.out⟩
    ·rw [hp] at HC
     have HPE := Lib.hid (predEq_iff.1 hp)
     clear hp
     go_wp2_with (first | (refine wpList_ld rfl _ _ rfl _ _ rfl _ HBA.out ?_) | (refine wpList_ld rfl _ _ rfl _ _ rfl _ HBB.out ?_) | (go_at_call 114; refine HC.out.mono ?_; rintro r3 w3 ⟨rfl, hk3⟩; have HK3 := Lib.hid (HK2.out.trans hk3 (fun _ h => h.elim)); clear hk3 HC HBA HBB))
     go_roundw
     case rel => exact ⟨j + 1, by go_num, by omega, take_succ_eq HT.out HE.out (by rw [HF2.out, HPE.out]), HK3.out⟩
     case measure => simp [intOf]; omega
   ·have hji : ¬ ((j : Int) < (N : Int)) := by omega
    have HR := Lib.hid (show predEqL (es.map PredE.p) (fs.map PredE.p) = true from predEqL_iff.2 (take_all_eq HT.out (by rw [List.length_map, HN.out]; omega) (by rw [List.length_map, HLEN.out]; omega)))
    go_wp2_with fail
    go_ret
    exact ⟨by rw [HR.out]; rfl, HK.out⟩
 ·have hbe : ((es.length : Int) == (fs.length : Int)) = false := by simp; omega
  have hbe2 : ((es.length : Int) != (fs.length : Int)) = true := by simp; omega
  have HR := Lib.hid (show predEqL (es.map PredE.p) (fs.map PredE.p) = false by
   rw [Bool.eq_false_iff]
   intro h
   have := congrArg List.length (predEqL_iff.1 h)
   simp at this
   exact hlen this)
  clear hlen
  go_enter Tryz.func158, Tryz.ntmps158
  go_wp2_with fail
  go_ret
  exact ⟨by rw [HR.out]; rfl, Kept.refl _ _⟩
end Go.Proofs.YtgljdkjepdknnaaGreatDoor

/- Are two predicates the same (pred.Same). -/
namespace Go.Proofs.YtgljdkjepdknnaaGreatDoor
open Go.ChangeShapes Go.WideShapes Go.ChangeAt Go.RowKit
set_option maxRecDepth 100000
set_option linter.unusedSimpArgs false

theorem boxPr {w : World} {b : Nat} {x : PredE} {t : TypeId} {fr : Nat × Nat} (h : w.heap[b]? = some (.cells x.cells.toArray t fr)) :
  w.cell? ⟨b, 0, none⟩ = some (.int .i64 x.op) ∧ w.cell? ⟨b, 1, none⟩ = some (.int .i64 x.col) ∧ w.cell? ⟨b, 2, none⟩ = some (.bool x.v.t) ∧ w.cell? ⟨b, 3, none⟩ = some (.int .i64 x.v.n) ∧ w.cell? ⟨b, 4, none⟩ = some (.string x.v.s) ∧ w.cell? ⟨b, 5, none⟩ = some (.bool x.w.t) ∧ w.cell? ⟨b, 6, none⟩ = some (.int .i64 x.w.n) ∧ w.cell? ⟨b, 7, none⟩ = some (.string x.w.s) ∧ w.cell? ⟨b, 8, none⟩ = some (.slice x.la x.ln x.lc) := by
 refine ⟨?_, ?_, ?_, ?_, ?_, ?_, ?_, ?_, ?_⟩ <;> simp [World.cell?, h, PredE.cells]
theorem alloc2p (w : World) (c1 c2 : Array Value) (t1 t2 : TypeId) : ∃ W, W = (w.alloc (.cells c1 t1)).alloc (.cells c2 t2) ∧ Kept (fun _ => False) w W ∧ W.heap[w.heap.size]? = some (.cells c1 t1 (0, 0)) ∧ W.heap[w.heap.size + 1]? = some (.cells c2 t2 (0, 0)) := by
 have z1 : (w.alloc (.cells c1 t1)).heap.size = w.heap.size + 1 := Array.size_push ..
 have a1 := heap_alloc_self (w.alloc (.cells c1 t1)) (.cells c2 t2)
 rw [z1] at a1
 exact ⟨_, rfl, ((Kept.refl _ _).alloc _).alloc _, heap_alloc_lt (heap_alloc_self w _), a1⟩
set_option maxHeartbeats 8000000 in
theorem predSame_ok : ∀ (p : PredT) (x y : PredE) (w : World), x.p = p → PredsRd w (.slice x.la x.ln x.lc) x.subs → PredsRd w (.slice y.la y.ln y.lc) y.subs →
  Calls Tryz.prog 114 #[.agg x.cells.toArray, .agg y.cells.toArray] w fun r w' => r = .returned (.bool (predEq x.p y.p)) ∧ Kept (fun _ => False) w w' := by
 refine PredT.ind fun op col v w0 l ih x y w hx h1 h2 => ?_
 have hl : x.subs = l := by unfold PredE.p at hx; cases hx; rfl
 obtain ⟨W1, hW1, hk1, hb1, hb2⟩ := alloc2p w x.cells.toArray y.cells.toArray tPr tPr
 have HEQ : Hid (Calls Tryz.prog 158 #[.slice x.la x.ln x.lc, .slice y.la y.ln y.lc, .func (.func 114) #[] #[]] W1 fun r w' => r = .returned (.bool (predEqL x.subs y.subs)) ∧ Kept (fun _ => False) W1 w') := Lib.hid (by
  have k1 := h1.kept hk1
  have k2 := h2.kept hk1
  generalize hxs : x.subs = xs at k1 hl
  generalize hys : y.subs = ys at k2
  cases k1 with
  | mk _ es he hes =>
   cases k2 with
   | mk _ fs hf hfs =>
    refine equalFunc_ok he hf (fun e hee f hff W hW => ?_)
    exact ih e.p (by rw [← hl]; exact List.mem_map.2 ⟨e, hee, rfl⟩) e f W rfl ((hes e hee).kept hW) ((hfs f hff).kept hW))
 have HW1 := Lib.hid hW1
 have HK1 := Lib.hid hk1
 have HB1 := Lib.hid hb1
 have HB2 := Lib.hid hb2
 have HP := Lib.hid (show predEq x.p y.p = (decide (x.op = y.op) && decide (x.col = y.col) && decide (x.v = y.v) && decide (x.w = y.w) && predEqL x.subs y.subs) from predEq_mk ..)
 clear h1 h2 hW1 hk1 hb1 hb2 hx hl ih
 cases d0 : decide (x.op = y.op)
 ·have HR := Lib.hid (show predEq x.p y.p = false by rw [HP.out, d0]; simp)
  have q0 : (x.op == y.op) = false := by simpa using d0
  clear d0 HP HEQ
  go_enter Tryz.func114, Tryz.ntmps114
  go_upto_region 1 with fail
  rw [← HW1.out]
  clear HW1
  generalize w.heap.size + 1 = b2 at HB2 ⊢
  generalize w.heap.size = b1 at HB1 ⊢
  obtain ⟨x0, x1, x2, x3, x4, x5, x6, x7, x8⟩ := boxPr HB1.out
  obtain ⟨y0, y1, y2, y3, y4, y5, y6, y7, y8⟩ := boxPr HB2.out
  go_wp2_with fail
  go_ret
  exact ⟨by rw [HR.out]; rfl, HK1.out⟩
 ·have q0 : (x.op == y.op) = true := by simpa using d0
  cases d1 : decide (x.col = y.col)
  ·have HR := Lib.hid (show predEq x.p y.p = false by rw [HP.out, d1]; simp)
   have q1 : (x.col == y.col) = false := by simpa using d1
   clear d0 d1 HP HEQ
   go_enter Tryz.func114, Tryz.ntmps114
   go_upto_region 1 with fail
   rw [← HW1.out]
   clear HW1
   generalize w.heap.size + 1 = b2 at HB2 ⊢
   generalize w.heap.size = b1 at HB1 ⊢
   obtain ⟨x0, x1, x2, x3, x4, x5, x6, x7, x8⟩ := boxPr HB1.out
   obtain ⟨y0, y1, y2, y3, y4, y5, y6, y7, y8⟩ := boxPr HB2.out
   go_wp2_with fail
   go_ret
   exact ⟨by rw [HR.out]; rfl, HK1.out⟩
  ·have q1 : (x.col == y.col) = true := by simpa using d1
   cases d2 : decide (x.v = y.v)
   ·have HR := Lib.hid (show predEq x.p y.p = false by rw [HP.out, d2]; simp)
    have q2 : valEqB x.v.t x.v.n x.v.s y.v.t y.v.n y.v.s = false := by rw [valEqB_val]; exact d2
    clear d0 d1 d2 HP HEQ
    go_enter Tryz.func114, Tryz.ntmps114
    go_upto_region 1 with fail
    rw [← HW1.out]
    clear HW1
    generalize w.heap.size + 1 = b2 at HB2 ⊢
    generalize w.heap.size = b1 at HB1 ⊢
    obtain ⟨x0, x1, x2, x3, x4, x5, x6, x7, x8⟩ := boxPr HB1.out
    obtain ⟨y0, y1, y2, y3, y4, y5, y6, y7, y8⟩ := boxPr HB2.out
    go_wp2_with fail
    go_ret
    exact ⟨by rw [HR.out]; rfl, HK1.out⟩
   ·have q2 : valEqB x.v.t x.v.n x.v.s y.v.t y.v.n y.v.s = true := by rw [valEqB_val]; exact d2
    cases d3 : decide (x.w = y.w)
    ·have HR := Lib.hid (show predEq x.p y.p = false by rw [HP.out, d3]; simp)
     have q3 : valEqB x.w.t x.w.n x.w.s y.w.t y.w.n y.w.s = false := by rw [valEqB_val]; exact d3
     clear d0 d1 d2 d3 HP HEQ
     go_enter Tryz.func114, Tryz.ntmps114
     go_upto_region 1 with fail
     rw [← HW1.out]
     clear HW1
     generalize w.heap.size + 1 = b2 at HB2 ⊢
     generalize w.heap.size = b1 at HB1 ⊢
     obtain ⟨x0, x1, x2, x3, x4, x5, x6, x7, x8⟩ := boxPr HB1.out
     obtain ⟨y0, y1, y2, y3, y4, y5, y6, y7, y8⟩ := boxPr HB2.out
     go_wp2_with fail
     go_ret
     exact ⟨by rw [HR.out]; rfl, HK1.out⟩
    ·have q3 : valEqB x.w.t x.w.n x.w.s y.w.t y.w.n y.w.s = true := by rw [valEqB_val]; exact d3
     have HR := Lib.hid (show predEq x.p y.p = predEqL x.subs y.subs by rw [HP.out, d0, d1, d2, d3]; simp)
     clear d0 d1 d2 d3 HP
     go_enter Tryz.func114, Tryz.ntmps114
     go_upto_region 1 with fail
     rw [← HW1.out]
     clear HW1
     generalize w.heap.size + 1 = b2 at HB2 ⊢
     generalize w.heap.size = b1 at HB1 ⊢
     obtain ⟨x0, x1, x2, x3, x4, x5, x6, x7, x8⟩ := boxPr HB1.out
     obtain ⟨y0, y1, y2, y3, y4, y5, y6, y7, y8⟩ := boxPr HB2.out
     go_wp2_with (go_at_call 158; refine HEQ.out.mono ?_; rintro r3 w3 ⟨rfl, hk3⟩; have HK3 := Lib.hid (HK1.out.trans hk3 (fun _ h => h.elim)); clear hk3 HEQ x0 x1 x2 x3 x4 x5 x6 x7 x8 y0 y1 y2 y3 y4 y5 y6 y7 y8)
     go_ret
     exact ⟨by rw [HR.out]; rfl, HK3.out⟩
end Go.Proofs.YtgljdkjepdknnaaGreatDoor

/- Are two claims about one thing (claim.Same). -/
namespace Go.Proofs.YtgljdkjepdknnaaGreatDoor
open Go.ChangeShapes Go.WideShapes Go.ChangeAt Go.RowKit
set_option maxRecDepth 100000
set_option linter.unusedSimpArgs false

def abEq (a b c d : Int) : Bool := decide (a = c) && decide (b = d)
theorem equalIn_about (w : World) (a b c d : Int) : (Op.equalIn 10000 151 (.agg #[.int .i64 a, .int .i64 b]) (.agg #[.int .i64 c, .int .i64 d])).run Tryz.prog w = .ok (abEq a b c d) w := by
 have hst : Tryz.prog.stoodInHeld 151 = false := by kernel_rfl
 have hu := Tryz.underlying151
 have hf : Tryz.prog.underlying 151 = some (.struct (Tryz.prog.fieldsOf 151)) := by unfold Program.fieldsOf; rw [hu]
 rw [show (10000 : Nat) = 9999 + 1 from rfl, run_equalIn_struct w 9999 _ _ _ hf hst]
 unfold Program.fieldsOf
 rw [hu]
 have e1 := run_equalIn_int (P := Tryz.prog) w 9998 3 .i64 .i64 a c Tryz.underlying3
 have e2 := run_equalIn_int (P := Tryz.prog) w 9998 3 .i64 .i64 b d Tryz.underlying3
 unfold abEq
 by_cases h1 : a = c
 ·subst h1
  by_cases h2 : b = d
  ·subst h2
   simp [Op.eqFields, part, isAgg, run_underlying Tryz.underlying3, e1, e2]
  ·simp [Op.eqFields, part, isAgg, run_underlying Tryz.underlying3, e1, e2, h2]
 ·simp [Op.eqFields, part, isAgg, run_underlying Tryz.underlying3, e1, e2, h1]
@[go_sem high] theorem run_eql_about (w : World) (a b c d : Int) : (binOp .eql 151 (.agg #[.int .i64 a, .int .i64 b]) (.agg #[.int .i64 c, .int .i64 d])).run Tryz.prog w = .ok (.bool (abEq a b c d)) w := by
 rw [run_eql_struct, equalIn_about]; rfl
theorem boxClm {w : World} {b : Nat} {x : ClmE} {t : TypeId} {fr : Nat × Nat} (h : w.heap[b]? = some (.cells x.cells.toArray t fr)) :
  w.cell? ⟨b, 0, none⟩ = some (.int .i64 x.kind) ∧ w.cell? ⟨b, 1, none⟩ = some (.int .i64 x.table) ∧ w.cell? ⟨b, 3, none⟩ = some (.bool x.key.t) ∧ w.cell? ⟨b, 4, none⟩ = some (.int .i64 x.key.n) ∧ w.cell? ⟨b, 5, none⟩ = some (.string x.key.s) := by
 refine ⟨?_, ?_, ?_, ?_, ?_⟩ <;> simp [World.cell?, h, ClmE.cells]
theorem boxClP {w : World} {b : Nat} {x : ClmE} {t : TypeId} {fr : Nat × Nat} (h : w.heap[b]? = some (.cells x.cells.toArray t fr)) : w.rangeAt b 7 x.pr.cells := fun j v hv => by
 rw [cell_of_row w b (7 + j) _ t fr h, ← hv, show 7 + j = j + 7 by omega]
 simp only [List.getElem?_toArray, ClmE.cells, List.getElem?_cons_succ]
 rfl
set_option maxHeartbeats 8000000 in
theorem same_C {w : World} {x y : ClmE} (hx : RdCl w x) (hy : RdCl w y) : Calls Tryz.prog 74 #[.agg x.cells.toArray, .agg y.cells.toArray] w fun r w' => r = .returned (.bool (RC.same x.c y.c)) ∧ Kept (fun _ => False) w w' := by
 obtain ⟨W1, hW1, hk1, hb1, hb2⟩ := alloc2p w x.cells.toArray y.cells.toArray tCl tCl
 have HW1 := Lib.hid hW1
 have HK1 := Lib.hid hk1
 have HB1 := Lib.hid hb1
 have HB2 := Lib.hid hb2
 have HX := Lib.hid (hx.2.kept hk1)
 have HY := Lib.hid (hy.2.kept hk1)
 have HP := Lib.hid (show RC.same x.c y.c = (decide (x.kind = y.kind) && decide (x.table = y.table) && (if x.kind = 1 then true else if x.kind = 2 then decide (x.key = y.key) else if x.kind = 3 then predEq x.pr.p y.pr.p else false)) from rfl)
 clear hW1 hk1 hb1 hb2 hx hy
 by_cases ht : x.table = y.table
 ·have hq : (x.table == y.table) = true := by simpa using ht
  have hq2 : (x.table != y.table) = false := by simpa using ht
  by_cases hk : x.kind = y.kind ∧ (x.kind = 1 ∨ x.kind = 2 ∨ x.kind = 3)
  ·obtain ⟨hkk, h1 | h1 | h1⟩ := hk
   ·have HR := Lib.hid (show RC.same x.c y.c = true by rw [HP.out, ← hkk, h1, ht]; simp)
    have a1 : abEq x.kind y.kind 1 1 = true := by unfold abEq; rw [← hkk, h1]; decide
    clear ht hkk h1 HP HX HY
    go_enter Tryz.func74, Tryz.ntmps74
    go_upto_region 1 with fail
    rw [← HW1.out]
    clear HW1
    generalize w.heap.size + 1 = b2 at HB2 ⊢
    generalize w.heap.size = b1 at HB1 ⊢
    obtain ⟨x0, x1, x3, x4, x5⟩ := boxClm HB1.out
    obtain ⟨y0, y1, y3, y4, y5⟩ := boxClm HB2.out
    go_wp2_with fail
    go_ret
    exact ⟨by rw [HR.out]; rfl, HK1.out.alloc _⟩
   ·have a1 : abEq x.kind y.kind 1 1 = false := by unfold abEq; rw [← hkk, h1]; decide
    have a2 : abEq x.kind y.kind 2 2 = true := by unfold abEq; rw [← hkk, h1]; decide
    have HR := Lib.hid (show RC.same x.c y.c = valEqB x.key.t x.key.n x.key.s y.key.t y.key.n y.key.s by rw [HP.out, ← hkk, h1, ht, valEqB_val]; simp)
    clear ht hkk h1 HP HX HY
    go_enter Tryz.func74, Tryz.ntmps74
    go_upto_region 1 with fail
    rw [← HW1.out]
    clear HW1
    generalize w.heap.size + 1 = b2 at HB2 ⊢
    generalize w.heap.size = b1 at HB1 ⊢
    obtain ⟨x0, x1, x3, x4, x5⟩ := boxClm HB1.out
    obtain ⟨y0, y1, y3, y4, y5⟩ := boxClm HB2.out
    go_upto_region 4 with fail
    obtain ⟨W2, hW2, hk2, hb3⟩ : ∃ W, W = W1.alloc (.cells #[.int .i64 x.kind, .int .i64 y.kind] 151) ∧ Kept (fun _ => False) W1 W ∧ W.heap[W1.heap.size]? = some (.cells #[.int .i64 x.kind, .int .i64 y.kind] 151 (0, 0)) := ⟨_, rfl, (Kept.refl _ _).alloc _, heap_alloc_self _ _⟩
    rw [← hW2]
    have HK2 := Lib.hid (HK1.out.trans hk2 (fun _ h => h.elim))
    obtain ⟨z0, z1, _⟩ := cells2 hb3
    clear hW2 hb3 x0 x1 x3 x4 x5 y0 y1 y3 y4 y5
    obtain ⟨x0, x1, x3, x4, x5⟩ := boxClm ((hk2.block b1 (lt_of_heap HB1.out) (fun h => h)).trans HB1.out)
    obtain ⟨y0, y1, y3, y4, y5⟩ := boxClm ((hk2.block b2 (lt_of_heap HB2.out) (fun h => h)).trans HB2.out)
    clear hk2
    generalize W1.heap.size = b3 at z0 z1 ⊢
    go_wp2_with fail
    go_ret
    exact ⟨by rw [HR.out]; rfl, HK2.out⟩
   ·have a1 : abEq x.kind y.kind 1 1 = false := by unfold abEq; rw [← hkk, h1]; decide
    have a2 : abEq x.kind y.kind 2 2 = false := by unfold abEq; rw [← hkk, h1]; decide
    have a3 : abEq x.kind y.kind 3 3 = true := by unfold abEq; rw [← hkk, h1]; decide
    have HR := Lib.hid (show RC.same x.c y.c = predEq x.pr.p y.pr.p by rw [HP.out, ← hkk, h1, ht]; simp)
    clear ht hkk h1 HP
    go_enter Tryz.func74, Tryz.ntmps74
    go_upto_region 1 with fail
    rw [← HW1.out]
    clear HW1
    generalize w.heap.size + 1 = b2 at HB2 ⊢
    generalize w.heap.size = b1 at HB1 ⊢
    obtain ⟨x0, x1, x3, x4, x5⟩ := boxClm HB1.out
    obtain ⟨y0, y1, y3, y4, y5⟩ := boxClm HB2.out
    go_upto_region 4 with fail
    obtain ⟨W2, hW2, hk2, hb3⟩ : ∃ W, W = W1.alloc (.cells #[.int .i64 x.kind, .int .i64 y.kind] 151) ∧ Kept (fun _ => False) W1 W ∧ W.heap[W1.heap.size]? = some (.cells #[.int .i64 x.kind, .int .i64 y.kind] 151 (0, 0)) := ⟨_, rfl, (Kept.refl _ _).alloc _, heap_alloc_self _ _⟩
    rw [← hW2]
    have HK2 := Lib.hid (HK1.out.trans hk2 (fun _ h => h.elim))
    have HLX := Lib.hid (loadPr (boxClP ((hk2.block b1 (lt_of_heap HB1.out) (fun h => h)).trans HB1.out)))
    have HLY := Lib.hid (loadPr (boxClP ((hk2.block b2 (lt_of_heap HB2.out) (fun h => h)).trans HB2.out)))
    have HPS := Lib.hid (predSame_ok x.pr.p x.pr y.pr W2 rfl (HX.out.kept hk2) (HY.out.kept hk2))
    obtain ⟨z0, z1, _⟩ := cells2 hb3
    clear hW2 hk2 hb3 x0 x1 x3 x4 x5 y0 y1 y3 y4 y5
    generalize W1.heap.size = b3 at z0 z1 ⊢
    go_wp2_with (first | (refine wpList_ld rfl _ _ rfl _ _ rfl _ HLX.out ?_) | (refine wpList_ld rfl _ _ rfl _ _ rfl _ HLY.out ?_) | (go_at_call 114; refine HPS.out.mono ?_; rintro r3 w3 ⟨rfl, hk3⟩; have HK3 := Lib.hid (HK2.out.trans hk3 (fun _ h => h.elim)); clear hk3 HPS HLX HLY z0 z1))
    go_ret
    exact ⟨by rw [HR.out]; rfl, HK3.out⟩
  ·have a1 : abEq x.kind y.kind 1 1 = false := by unfold abEq; rw [Bool.and_eq_false_iff, decide_eq_false_iff_not, decide_eq_false_iff_not]; omega
   have a2 : abEq x.kind y.kind 2 2 = false := by unfold abEq; rw [Bool.and_eq_false_iff, decide_eq_false_iff_not, decide_eq_false_iff_not]; omega
   have a3 : abEq x.kind y.kind 3 3 = false := by unfold abEq; rw [Bool.and_eq_false_iff, decide_eq_false_iff_not, decide_eq_false_iff_not]; omega
   have HR := Lib.hid (show RC.same x.c y.c = false by
    rw [Bool.eq_false_iff]
    intro h
    obtain ⟨e1, _, e3⟩ := clmSame_iff.1 h
    refine hk ⟨e1, ?_⟩
    rcases e3 with e | ⟨e, _⟩ | ⟨e, _⟩
    ·exact .inl e
    ·exact .inr (.inl e)
    ·exact .inr (.inr e))
   clear ht hk HP HX HY
   go_enter Tryz.func74, Tryz.ntmps74
   go_upto_region 1 with fail
   rw [← HW1.out]
   clear HW1
   generalize w.heap.size + 1 = b2 at HB2 ⊢
   generalize w.heap.size = b1 at HB1 ⊢
   obtain ⟨x0, x1, x3, x4, x5⟩ := boxClm HB1.out
   obtain ⟨y0, y1, y3, y4, y5⟩ := boxClm HB2.out
   go_wp2_with fail
   go_ret
   exact ⟨by rw [HR.out]; rfl, HK1.out.alloc _⟩
 ·have hq : (x.table == y.table) = false := by simpa using ht
  have hq2 : (x.table != y.table) = true := by simpa using ht
  have HR := Lib.hid (show RC.same x.c y.c = false by rw [HP.out]; simp [ht])
  clear ht HP HX HY
  go_enter Tryz.func74, Tryz.ntmps74
  go_upto_region 1 with fail
  rw [← HW1.out]
  clear HW1
  generalize w.heap.size + 1 = b2 at HB2 ⊢
  generalize w.heap.size = b1 at HB1 ⊢
  obtain ⟨x0, x1, x3, x4, x5⟩ := boxClm HB1.out
  obtain ⟨y0, y1, y3, y4, y5⟩ := boxClm HB2.out
  go_wp2_with fail
  go_ret
  exact ⟨by rw [HR.out]; rfl, HK1.out⟩
end Go.Proofs.YtgljdkjepdknnaaGreatDoor
