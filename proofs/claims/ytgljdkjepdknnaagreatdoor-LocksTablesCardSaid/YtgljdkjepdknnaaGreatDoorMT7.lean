/- Joined texts: The document's answer: are two rows of numbers the same (ratlineref10.Ints). EqualFunc over predicates. Are two predicates the same (pred.Same). Are two claims about one thing (claim.Same). What somebody holds of the same. (printed by genq.py) Insert, Delete over a queue's entries. (printed by genq.py) Are two rows the same (row.Same, ratlineref02.Same). IndexFunc, ContainsFunc over predicates. (printed by genq.py) -/
import Derived.Test.YtgljdkjepdknnaaGreatDoorMT2
import Derived.Test.YtgljdkjepdknnaaGreatDoorMT6
import Derived.Test.YtgljdkjepdknnaaGreatDoorMT5
set_option maxHeartbeats 64000000
namespace Go.Proofs.YtgljdkjepdknnaaGreatDoor
open Go.ChangeShapes Go.WideShapes Go.ChangeAt Go.RowKit
set_option maxRecDepth 100000
set_option linter.unusedSimpArgs false
theorem du {α : Type} {l1 l2 : List α} {k : Nat} {a : α} (h : l1.take k = l2.take k) (h1 : l1[k]? = some a) (h2 : l2[k]? = some a) : l1.take (k + 1) = l2.take (k + 1) := by
 rw [List.take_add_one, List.take_add_one, h, h1, h2]
theorem ey {α : Type} {l1 l2 : List α} {k : Nat} (h : l1.take k = l2.take k) (h1 : l1.length ≤ k) (h2 : l2.length ≤ k) : l1 = l2 := by
 rw [List.take_of_length_le h1, List.take_of_length_le h2] at h
 exact h
abbrev j7 (w : World) (v : Value) (l : List Int) : Prop := Rd w 1 v l.length (l.map (Value.int .i64))
theorem Ints_ok {w : World} {v1 v2 : Value} {l1 l2 : List Int} (h1 : j7 w v1 l1) (h2 : j7 w v2 l2) :
  Calls Tryz.prog 30 #[v1, v2] w fun e w' => e = .returned (.bool (decide (l1 = l2))) ∧ ∃ n, w' = w.drewN n := by
 obtain ⟨_, m1, a1, c1, rfl, n1, _, _, g1⟩ := h1
 obtain ⟨_, m2, a2, c2, rfl, n2, _, _, g2⟩ := h2
 unfold maxLen at m1 m2
 by_cases hlen : l1.length = l2.length
 ·rw [← hlen] at g2
  have G1 := BO g1
  have G2 := BO g2
  clear g1 g2
  generalize hL : l1.length = L at *
  rw [← hlen]
  go_enter Tryz.func30, Tryz.ntmps30
  go_wp2_with fail
  go_loopw [5] (fun i wr => ∃ k : Nat, i = .int .i64 k ∧ k ≤ L ∧ l1.take k = l2.take k ∧ ∃ n, wr = w.drewN n) (fun i _ => L - (intOf i).toNat)
  case atStart => exact ⟨0, rfl, by omega, rfl, 0, rfl⟩
  case round =>
   obtain ⟨k, rfl, hk, ht, n0, rfl⟩ := hrel
   have HT := BO ht
   clear ht
   by_cases hlt : k < L
   ·obtain ⟨a, ha⟩ : ∃ a, l1[k]? = some a := ⟨l1[k]'(by omega), List.getElem?_eq_getElem (by omega)⟩
    obtain ⟨b, hb⟩ : ∃ b, l2[k]? = some b := ⟨l2[k]'(by omega), List.getElem?_eq_getElem (by omega)⟩
    rcases G1.out with h0 | ⟨b1, o1, rfl, hc1⟩
    ·omega
    rcases G2.out with h0 | ⟨b2, o2, rfl, hc2⟩
    ·omega
    have x0 := hc1 k _ (by rw [List.getElem?_map, ha]; rfl)
    have y0 := hc2 k _ (by rw [List.getElem?_map, hb]; rfl)
    have HA := BO ha
    have HB := BO hb
    clear ha hb hc1 hc2
    by_cases hab : a = b
    ·subst hab
     go_wp2_with fail
     go_quiet (fail)
     go_wp2_with fail
     go_roundw
     case rel => exact ⟨k + 1, by go_num, by omega, du HT.out HA.out HB.out, _, rfl⟩
     case measure => simp [intOf]; omega
    ·have hv : (a == b) = false := by simpa using hab
     have hv2 : (a != b) = true := by simpa using hab
     have hne : decide (l1 = l2) = false := decide_eq_false (fun e => by
      have h1 := HA.out
      have h2 := HB.out
      rw [e, h2] at h1
      exact hab (Option.some.inj h1).symm)
     have uU := BO hne
     clear hne hab
     go_wp2_with fail
     go_quiet (fail)
     go_wp2_with fail
     go_ret
     exact ⟨by rw [uU.out]; rfl, _, World.drewN_drewN _ _ _⟩
   ·have heq : decide (l1 = l2) = true := decide_eq_true (ey HT.out (by omega) (by omega))
    have wj := BO heq
    clear heq
    go_wp2_with fail
    go_ret
    exact ⟨by rw [wj.out]; rfl, n0, rfl⟩
 ·have hne : decide (l1 = l2) = false := decide_eq_false (fun e => hlen (by rw [e]))
  have hbe : ((l1.length : Int) == (l2.length : Int)) = false := by simp; omega
  have uU := BO hne
  clear hne g1 g2
  go_enter Tryz.func30, Tryz.ntmps30
  go_wp2_with fail
  go_ret
  exact ⟨by rw [uU.out]; rfl, 0, rfl⟩
@[go_sem] theorem sizePr (x : PredE) : x.cells.toArray.size = 9 := rfl
theorem bu {w : World} {g o : Nat} {x : PredE} (h : w.rangeAt g o x.cells) : (loadVar tPr ⟨g, o, none⟩).run Tryz.prog w = .ok (.agg x.cells.toArray) w := run_loadVar_mid w g o _ _ _ h Tryz.underlying35 rfl (by kernel_rfl)
theorem mm {w : World} {v1 v2 : Value} {es fs : List PredE} (h1 : Rd w 9 v1 es.length (es.flatMap PredE.cells)) (h2 : Rd w 9 v2 fs.length (fs.flatMap PredE.cells))
  (HF : ∀ e ∈ es, ∀ f ∈ fs, ∀ W, Kept (fun _ => False) w W → Calls Tryz.prog 114 #[.agg e.cells.toArray, .agg f.cells.toArray] W fun r W' => r = .returned (.bool (bR e.p f.p)) ∧ Kept (fun _ => False) W W') :
  Calls Tryz.prog 158 #[v1, v2, .func (.func 114) #[] #[]] w fun r w' => r = .returned (.bool (cJ (es.map PredE.p) (fs.map PredE.p))) ∧ Kept (fun _ => False) w w' := by
 obtain ⟨_, m1, a1, c1, rfl, n1, _⟩ := id h1
 obtain ⟨_, m2, a2, c2, rfl, n2, _⟩ := id h2
 unfold maxLen at m1 m2
 have H1 := BO h1
 have H2 := BO h2
 have t7 := BO HF
 clear h1 h2 HF
 by_cases hlen : es.length = fs.length
 ·have tO := BO hlen.symm
  obtain ⟨N, hN⟩ : ∃ N, es.length = N := ⟨_, rfl⟩
  rw [← hlen] at H2 n2 m2 ⊢
  rw [hN] at H1 H2 n1 n2 m1 m2 tO ⊢
  have HN := BO hN
  clear hlen hN
  go_enter Tryz.func158, Tryz.ntmps158
  go_wp2_with fail
  go_loopw [17] (fun ii wr2 => ∃ j : Nat, ii = .int .i64 j ∧ j ≤ N ∧ (es.map PredE.p).take j = (fs.map PredE.p).take j ∧ Kept (fun _ => False) w wr2) (fun ii _ => N - (intOf ii).toNat)
  case atStart => exact ⟨0, rfl, by omega, rfl, Kept.refl _ _⟩
  case round =>
   obtain ⟨j, rfl, hj, ht, hk⟩ := hrel
   have HT := BO ht
   have HK := BO hk
   clear ht hk
   by_cases hlt : j < N
   ·have hji : (j : Int) < (N : Int) := by omega
    obtain ⟨e, he⟩ : ∃ e, es[j]? = some e := ⟨es[j]'(by rw [HN.out]; exact hlt), List.getElem?_eq_getElem _⟩
    obtain ⟨f, hf⟩ : ∃ f, fs[j]? = some f := ⟨fs[j]'(by rw [tO.out]; exact hlt), List.getElem?_eq_getElem _⟩
    obtain ⟨g1, o1, rfl, hr1⟩ := aD PredE.len (H1.out.kept HK.out (fun _ _ h => h)) he HN.out
    have tA := BO (bu hr1)
    have HE := BO (show (es.map PredE.p)[j]? = some e.p by rw [List.getElem?_map, he]; rfl)
    have yN := BO (show (fs.map PredE.p)[j]? = some f.p by rw [List.getElem?_map, hf]; rfl)
    have AQ := BO hf
    have Bn := BO (List.mem_of_getElem? he)
    obtain ⟨W1, hW1, hk1, hb1⟩ : ∃ W, W = wr.alloc (.cells e.cells.toArray tPr) ∧ Kept (fun _ => False) wr W ∧ W.heap[wr.heap.size]? = some (.cells e.cells.toArray tPr (0, 0)) := ⟨_, rfl, (Kept.refl _ _).alloc _, aB _ _⟩
    have sR := BO hW1
    have sW := BO (HK.out.trans hk1 (fun _ h => h.elim))
    have sZ := BO hb1
    clear he hf hr1 hW1 hk1 hb1
    go_upto_region 6 with (first | (refine ag rfl _ _ rfl _ _ rfl _ tA.out ?_) | (refine ax rfl _ _ _ rfl e.cells _ _ rfl rfl (by kernel_rfl) rfl (PredE.one e) ?_))
    rw [← sR.out]
    clear sR tA
    generalize wr.heap.size = b1 at sZ ⊢
    obtain ⟨g2, o2, rfl, hr2⟩ := aD PredE.len (H2.out.kept sW.out (fun _ _ h => h)) AQ.out tO.out
    have tU := BO (bu hr2)
    obtain ⟨W2, hW2, hk2, hb2⟩ : ∃ W, W = W1.alloc (.cells f.cells.toArray tPr) ∧ Kept (fun _ => False) W1 W ∧ W.heap[W1.heap.size]? = some (.cells f.cells.toArray tPr (0, 0)) := ⟨_, rfl, (Kept.refl _ _).alloc _, aB _ _⟩
    have AR := BO hW2
    have s8 := BO (sW.out.trans hk2 (fun _ h => h.elim))
    have zP := BO (bu (ai ((hk2.block b1 (aI sZ.out) (fun h => h)).trans sZ.out)))
    have yq := BO (bu (ai hb2))
    have HC := BO (t7.out e Bn.out f (List.mem_of_getElem? AQ.out) W2 s8.out)
    clear hr2 hW2 hk2 hb2
    go_upto_region 7 with (first | (refine ag rfl _ _ rfl _ _ rfl _ tU.out ?_) | (refine ax rfl _ _ _ rfl f.cells _ _ rfl rfl (by kernel_rfl) rfl (PredE.one f) ?_))
    rw [← AR.out]
    clear AR tU
    generalize W1.heap.size = b2 at yq ⊢
    cases hp : bR e.p f.p
    ·rw [hp] at HC
     have HR := BO (show cJ (es.map PredE.p) (fs.map PredE.p) = false by
      rw [Bool.eq_false_iff]
      intro h
      have h3 := cU.1 h
      have h4 := HE.out
      rw [h3, yN.out] at h4
      rw [Option.some.inj h4, gm] at hp
      cases hp)
     clear hp
     go_wp2_with (first | (refine ag rfl _ _ rfl _ _ rfl _ zP.out ?_) | (refine ag rfl _ _ rfl _ _ rfl _ yq.out ?_) | (go_at_call 114; refine HC.out.mono ?_; rintro r3 w3 ⟨rfl, hk3⟩; have tn := BO (s8.out.trans hk3 (fun _ h => h.elim)); clear hk3 HC zP yq))
     go_ret
     exact ⟨by rw [HR.out]; rfl, tn.out⟩
    ·rw [hp] at HC
     have z9 := BO (d8.1 hp)
     clear hp
     go_wp2_with (first | (refine ag rfl _ _ rfl _ _ rfl _ zP.out ?_) | (refine ag rfl _ _ rfl _ _ rfl _ yq.out ?_) | (go_at_call 114; refine HC.out.mono ?_; rintro r3 w3 ⟨rfl, hk3⟩; have tn := BO (s8.out.trans hk3 (fun _ h => h.elim)); clear hk3 HC zP yq))
     go_roundw
     case rel => exact ⟨j + 1, by go_num, by omega, du HT.out HE.out (by rw [yN.out, z9.out]), tn.out⟩
     case measure => simp [intOf]; omega
   ·have hji : ¬ ((j : Int) < (N : Int)) := by omega
    have HR := BO (show cJ (es.map PredE.p) (fs.map PredE.p) = true from cU.2 (ey HT.out (by rw [List.length_map, HN.out]; omega) (by rw [List.length_map, tO.out]; omega)))
    go_wp2_with fail
    go_ret
    exact ⟨by rw [HR.out]; rfl, HK.out⟩
 ·have hbe : ((es.length : Int) == (fs.length : Int)) = false := by simp; omega
  have hbe2 : ((es.length : Int) != (fs.length : Int)) = true := by simp; omega
  have HR := BO (show cJ (es.map PredE.p) (fs.map PredE.p) = false by
   rw [Bool.eq_false_iff]
   intro h
   have := congrArg List.length (cU.1 h)
   simp at this
   exact hlen this)
  clear hlen
  go_enter Tryz.func158, Tryz.ntmps158
  go_wp2_with fail
  go_ret
  exact ⟨by rw [HR.out]; rfl, Kept.refl _ _⟩
theorem aK {w : World} {b : Nat} {x : PredE} {t : TypeId} {fr : Nat × Nat} (h : w.heap[b]? = some (.cells x.cells.toArray t fr)) :
  w.cell? ⟨b, 0, none⟩ = some (.int .i64 x.op) ∧ w.cell? ⟨b, 1, none⟩ = some (.int .i64 x.col) ∧ w.cell? ⟨b, 2, none⟩ = some (.bool x.v.t) ∧ w.cell? ⟨b, 3, none⟩ = some (.int .i64 x.v.n) ∧ w.cell? ⟨b, 4, none⟩ = some (.string x.v.s) ∧ w.cell? ⟨b, 5, none⟩ = some (.bool x.w.t) ∧ w.cell? ⟨b, 6, none⟩ = some (.int .i64 x.w.n) ∧ w.cell? ⟨b, 7, none⟩ = some (.string x.w.s) ∧ w.cell? ⟨b, 8, none⟩ = some (.slice x.la x.ln x.lc) := by
 refine ⟨?_, ?_, ?_, ?_, ?_, ?_, ?_, ?_, ?_⟩ <;> simp [World.cell?, h, PredE.cells]
theorem dD (w : World) (c1 c2 : Array Value) (t1 t2 : TypeId) : ∃ W, W = (w.alloc (.cells c1 t1)).alloc (.cells c2 t2) ∧ Kept (fun _ => False) w W ∧ W.heap[w.heap.size]? = some (.cells c1 t1 (0, 0)) ∧ W.heap[w.heap.size + 1]? = some (.cells c2 t2 (0, 0)) := by
 have z1 : (w.alloc (.cells c1 t1)).heap.size = w.heap.size + 1 := Array.size_push ..
 have a1 := aB (w.alloc (.cells c1 t1)) (.cells c2 t2)
 rw [z1] at a1
 exact ⟨_, rfl, ((Kept.refl _ _).alloc _).alloc _, db (aB w _), a1⟩
theorem mB : ∀ (p : PredT) (x y : PredE) (w : World), x.p = p → PredsRd w (.slice x.la x.ln x.lc) x.subs → PredsRd w (.slice y.la y.ln y.lc) y.subs →
  Calls Tryz.prog 114 #[.agg x.cells.toArray, .agg y.cells.toArray] w fun r w' => r = .returned (.bool (bR x.p y.p)) ∧ Kept (fun _ => False) w w' := by
 refine PredT.ind fun op col v w0 l ih x y w hx h1 h2 => ?_
 have hl : x.subs = l := by unfold PredE.p at hx; cases hx; rfl
 obtain ⟨W1, hW1, hk1, hb1, hb2⟩ := dD w x.cells.toArray y.cells.toArray tPr tPr
 have wj : Hid (Calls Tryz.prog 158 #[.slice x.la x.ln x.lc, .slice y.la y.ln y.lc, .func (.func 114) #[] #[]] W1 fun r w' => r = .returned (.bool (cJ x.subs y.subs)) ∧ Kept (fun _ => False) W1 w') := BO (by
  have k1 := h1.kept hk1
  have k2 := h2.kept hk1
  generalize hxs : x.subs = xs at k1 hl
  generalize hys : y.subs = ys at k2
  cases k1 with
  | mk _ es he hes =>
   cases k2 with
   | mk _ fs hf hfs =>
    refine mm he hf (fun e hee f hff W hW => ?_)
    exact ih e.p (by rw [← hl]; exact List.mem_map.2 ⟨e, hee, rfl⟩) e f W rfl ((hes e hee).kept hW) ((hfs f hff).kept hW))
 have sR := BO hW1
 have sW := BO hk1
 have sZ := BO hb1
 have s7 := BO hb2
 have HP := BO (show bR x.p y.p = (decide (x.op = y.op) && decide (x.col = y.col) && decide (x.v = y.v) && decide (x.w = y.w) && cJ x.subs y.subs) from ly ..)
 clear h1 h2 hW1 hk1 hb1 hb2 hx hl ih
 cases d0 : decide (x.op = y.op)
 ·have HR := BO (show bR x.p y.p = false by rw [HP.out, d0]; simp)
  have q0 : (x.op == y.op) = false := by simpa using d0
  clear d0 HP wj
  go_enter Tryz.func114, Tryz.ntmps114
  go_upto_region 1 with fail
  rw [← sR.out]
  clear sR
  generalize w.heap.size + 1 = b2 at s7 ⊢
  generalize w.heap.size = b1 at sZ ⊢
  obtain ⟨x0, x1, x2, x3, x4, x5, x6, x7, x8⟩ := aK sZ.out
  obtain ⟨y0, y1, y2, y3, y4, y5, y6, y7, y8⟩ := aK s7.out
  go_wp2_with fail
  go_ret
  exact ⟨by rw [HR.out]; rfl, sW.out⟩
 ·have q0 : (x.op == y.op) = true := by simpa using d0
  cases d1 : decide (x.col = y.col)
  ·have HR := BO (show bR x.p y.p = false by rw [HP.out, d1]; simp)
   have q1 : (x.col == y.col) = false := by simpa using d1
   clear d0 d1 HP wj
   go_enter Tryz.func114, Tryz.ntmps114
   go_upto_region 1 with fail
   rw [← sR.out]
   clear sR
   generalize w.heap.size + 1 = b2 at s7 ⊢
   generalize w.heap.size = b1 at sZ ⊢
   obtain ⟨x0, x1, x2, x3, x4, x5, x6, x7, x8⟩ := aK sZ.out
   obtain ⟨y0, y1, y2, y3, y4, y5, y6, y7, y8⟩ := aK s7.out
   go_wp2_with fail
   go_ret
   exact ⟨by rw [HR.out]; rfl, sW.out⟩
  ·have q1 : (x.col == y.col) = true := by simpa using d1
   cases d2 : decide (x.v = y.v)
   ·have HR := BO (show bR x.p y.p = false by rw [HP.out, d2]; simp)
    have q2 : b6 x.v.t x.v.n x.v.s y.v.t y.v.n y.v.s = false := by rw [bH]; exact d2
    clear d0 d1 d2 HP wj
    go_enter Tryz.func114, Tryz.ntmps114
    go_upto_region 1 with fail
    rw [← sR.out]
    clear sR
    generalize w.heap.size + 1 = b2 at s7 ⊢
    generalize w.heap.size = b1 at sZ ⊢
    obtain ⟨x0, x1, x2, x3, x4, x5, x6, x7, x8⟩ := aK sZ.out
    obtain ⟨y0, y1, y2, y3, y4, y5, y6, y7, y8⟩ := aK s7.out
    go_wp2_with fail
    go_ret
    exact ⟨by rw [HR.out]; rfl, sW.out⟩
   ·have q2 : b6 x.v.t x.v.n x.v.s y.v.t y.v.n y.v.s = true := by rw [bH]; exact d2
    cases d3 : decide (x.w = y.w)
    ·have HR := BO (show bR x.p y.p = false by rw [HP.out, d3]; simp)
     have q3 : b6 x.w.t x.w.n x.w.s y.w.t y.w.n y.w.s = false := by rw [bH]; exact d3
     clear d0 d1 d2 d3 HP wj
     go_enter Tryz.func114, Tryz.ntmps114
     go_upto_region 1 with fail
     rw [← sR.out]
     clear sR
     generalize w.heap.size + 1 = b2 at s7 ⊢
     generalize w.heap.size = b1 at sZ ⊢
     obtain ⟨x0, x1, x2, x3, x4, x5, x6, x7, x8⟩ := aK sZ.out
     obtain ⟨y0, y1, y2, y3, y4, y5, y6, y7, y8⟩ := aK s7.out
     go_wp2_with fail
     go_ret
     exact ⟨by rw [HR.out]; rfl, sW.out⟩
    ·have q3 : b6 x.w.t x.w.n x.w.s y.w.t y.w.n y.w.s = true := by rw [bH]; exact d3
     have HR := BO (show bR x.p y.p = cJ x.subs y.subs by rw [HP.out, d0, d1, d2, d3]; simp)
     clear d0 d1 d2 d3 HP
     go_enter Tryz.func114, Tryz.ntmps114
     go_upto_region 1 with fail
     rw [← sR.out]
     clear sR
     generalize w.heap.size + 1 = b2 at s7 ⊢
     generalize w.heap.size = b1 at sZ ⊢
     obtain ⟨x0, x1, x2, x3, x4, x5, x6, x7, x8⟩ := aK sZ.out
     obtain ⟨y0, y1, y2, y3, y4, y5, y6, y7, y8⟩ := aK s7.out
     go_wp2_with (go_at_call 158; refine wj.out.mono ?_; rintro r3 w3 ⟨rfl, hk3⟩; have tn := BO (sW.out.trans hk3 (fun _ h => h.elim)); clear hk3 wj x0 x1 x2 x3 x4 x5 x6 x7 x8 y0 y1 y2 y3 y4 y5 y6 y7 y8)
     go_ret
     exact ⟨by rw [HR.out]; rfl, tn.out⟩
def cx (a b c d : Int) : Bool := decide (a = c) && decide (b = d)
theorem kQ (w : World) (a b c d : Int) : (Op.equalIn 10000 151 (.agg #[.int .i64 a, .int .i64 b]) (.agg #[.int .i64 c, .int .i64 d])).run Tryz.prog w = .ok (cx a b c d) w := by
 have hst : Tryz.prog.stoodInHeld 151 = false := by kernel_rfl
 have hu := Tryz.underlying151
 have hf : Tryz.prog.underlying 151 = some (.struct (Tryz.prog.fieldsOf 151)) := by unfold Program.fieldsOf; rw [hu]
 rw [show (10000 : Nat) = 9999 + 1 from rfl, run_equalIn_struct w 9999 _ _ _ hf hst]
 unfold Program.fieldsOf
 rw [hu]
 have e1 := run_equalIn_int (P := Tryz.prog) w 9998 3 .i64 .i64 a c Tryz.underlying3
 have e2 := run_equalIn_int (P := Tryz.prog) w 9998 3 .i64 .i64 b d Tryz.underlying3
 unfold cx
 by_cases h1 : a = c
 ·subst h1
  by_cases h2 : b = d
  ·subst h2
   simp [Op.eqFields, part, isAgg, run_underlying Tryz.underlying3, e1, e2]
  ·simp [Op.eqFields, part, isAgg, run_underlying Tryz.underlying3, e1, e2, h2]
 ·simp [Op.eqFields, part, isAgg, run_underlying Tryz.underlying3, e1, e2, h1]
@[go_sem high] theorem run_eql_about (w : World) (a b c d : Int) : (binOp .eql 151 (.agg #[.int .i64 a, .int .i64 b]) (.agg #[.int .i64 c, .int .i64 d])).run Tryz.prog w = .ok (.bool (cx a b c d)) w := by
 rw [run_eql_struct, kQ]; rfl
theorem aY {w : World} {b : Nat} {x : ClmE} {t : TypeId} {fr : Nat × Nat} (h : w.heap[b]? = some (.cells x.cells.toArray t fr)) :
  w.cell? ⟨b, 0, none⟩ = some (.int .i64 x.kind) ∧ w.cell? ⟨b, 1, none⟩ = some (.int .i64 x.table) ∧ w.cell? ⟨b, 3, none⟩ = some (.bool x.key.t) ∧ w.cell? ⟨b, 4, none⟩ = some (.int .i64 x.key.n) ∧ w.cell? ⟨b, 5, none⟩ = some (.string x.key.s) := by
 refine ⟨?_, ?_, ?_, ?_, ?_⟩ <;> simp [World.cell?, h, ClmE.cells]
theorem eF {w : World} {b : Nat} {x : ClmE} {t : TypeId} {fr : Nat × Nat} (h : w.heap[b]? = some (.cells x.cells.toArray t fr)) : w.rangeAt b 7 x.pr.cells := fun j v hv => by
 rw [cell_of_row w b (7 + j) _ t fr h, ← hv, show 7 + j = j + 7 by omega]
 simp only [List.getElem?_toArray, ClmE.cells, List.getElem?_cons_succ]
 rfl
theorem eR {w : World} {x y : ClmE} (hx : RdCl w x) (hy : RdCl w y) : Calls Tryz.prog 74 #[.agg x.cells.toArray, .agg y.cells.toArray] w fun r w' => r = .returned (.bool (RC.same x.c y.c)) ∧ Kept (fun _ => False) w w' := by
 obtain ⟨W1, hW1, hk1, hb1, hb2⟩ := dD w x.cells.toArray y.cells.toArray tCl tCl
 have sR := BO hW1
 have sW := BO hk1
 have sZ := BO hb1
 have s7 := BO hb2
 have HX := BO (hx.2.kept hk1)
 have HY := BO (hy.2.kept hk1)
 have HP := BO (show RC.same x.c y.c = (decide (x.kind = y.kind) && decide (x.table = y.table) && (if x.kind = 1 then true else if x.kind = 2 then decide (x.key = y.key) else if x.kind = 3 then bR x.pr.p y.pr.p else false)) from rfl)
 clear hW1 hk1 hb1 hb2 hx hy
 by_cases ht : x.table = y.table
 ·have hq : (x.table == y.table) = true := by simpa using ht
  have hq2 : (x.table != y.table) = false := by simpa using ht
  by_cases hk : x.kind = y.kind ∧ (x.kind = 1 ∨ x.kind = 2 ∨ x.kind = 3)
  ·obtain ⟨hkk, h1 | h1 | h1⟩ := hk
   ·have HR := BO (show RC.same x.c y.c = true by rw [HP.out, ← hkk, h1, ht]; simp)
    have a1 : cx x.kind y.kind 1 1 = true := by unfold cx; rw [← hkk, h1]; decide
    clear ht hkk h1 HP HX HY
    go_enter Tryz.func74, Tryz.ntmps74
    go_upto_region 1 with fail
    rw [← sR.out]
    clear sR
    generalize w.heap.size + 1 = b2 at s7 ⊢
    generalize w.heap.size = b1 at sZ ⊢
    obtain ⟨x0, x1, x3, x4, x5⟩ := aY sZ.out
    obtain ⟨y0, y1, y3, y4, y5⟩ := aY s7.out
    go_wp2_with fail
    go_ret
    exact ⟨by rw [HR.out]; rfl, sW.out.alloc _⟩
   ·have a1 : cx x.kind y.kind 1 1 = false := by unfold cx; rw [← hkk, h1]; decide
    have a2 : cx x.kind y.kind 2 2 = true := by unfold cx; rw [← hkk, h1]; decide
    have HR := BO (show RC.same x.c y.c = b6 x.key.t x.key.n x.key.s y.key.t y.key.n y.key.s by rw [HP.out, ← hkk, h1, ht, bH]; simp)
    clear ht hkk h1 HP HX HY
    go_enter Tryz.func74, Tryz.ntmps74
    go_upto_region 1 with fail
    rw [← sR.out]
    clear sR
    generalize w.heap.size + 1 = b2 at s7 ⊢
    generalize w.heap.size = b1 at sZ ⊢
    obtain ⟨x0, x1, x3, x4, x5⟩ := aY sZ.out
    obtain ⟨y0, y1, y3, y4, y5⟩ := aY s7.out
    go_upto_region 4 with fail
    obtain ⟨W2, hW2, hk2, hb3⟩ : ∃ W, W = W1.alloc (.cells #[.int .i64 x.kind, .int .i64 y.kind] 151) ∧ Kept (fun _ => False) W1 W ∧ W.heap[W1.heap.size]? = some (.cells #[.int .i64 x.kind, .int .i64 y.kind] 151 (0, 0)) := ⟨_, rfl, (Kept.refl _ _).alloc _, aB _ _⟩
    rw [← hW2]
    have s8 := BO (sW.out.trans hk2 (fun _ h => h.elim))
    obtain ⟨z0, z1, _⟩ := aH hb3
    clear hW2 hb3 x0 x1 x3 x4 x5 y0 y1 y3 y4 y5
    obtain ⟨x0, x1, x3, x4, x5⟩ := aY ((hk2.block b1 (aI sZ.out) (fun h => h)).trans sZ.out)
    obtain ⟨y0, y1, y3, y4, y5⟩ := aY ((hk2.block b2 (aI s7.out) (fun h => h)).trans s7.out)
    clear hk2
    generalize W1.heap.size = b3 at z0 z1 ⊢
    go_wp2_with fail
    go_ret
    exact ⟨by rw [HR.out]; rfl, s8.out⟩
   ·have a1 : cx x.kind y.kind 1 1 = false := by unfold cx; rw [← hkk, h1]; decide
    have a2 : cx x.kind y.kind 2 2 = false := by unfold cx; rw [← hkk, h1]; decide
    have a3 : cx x.kind y.kind 3 3 = true := by unfold cx; rw [← hkk, h1]; decide
    have HR := BO (show RC.same x.c y.c = bR x.pr.p y.pr.p by rw [HP.out, ← hkk, h1, ht]; simp)
    clear ht hkk h1 HP
    go_enter Tryz.func74, Tryz.ntmps74
    go_upto_region 1 with fail
    rw [← sR.out]
    clear sR
    generalize w.heap.size + 1 = b2 at s7 ⊢
    generalize w.heap.size = b1 at sZ ⊢
    obtain ⟨x0, x1, x3, x4, x5⟩ := aY sZ.out
    obtain ⟨y0, y1, y3, y4, y5⟩ := aY s7.out
    go_upto_region 4 with fail
    obtain ⟨W2, hW2, hk2, hb3⟩ : ∃ W, W = W1.alloc (.cells #[.int .i64 x.kind, .int .i64 y.kind] 151) ∧ Kept (fun _ => False) W1 W ∧ W.heap[W1.heap.size]? = some (.cells #[.int .i64 x.kind, .int .i64 y.kind] 151 (0, 0)) := ⟨_, rfl, (Kept.refl _ _).alloc _, aB _ _⟩
    rw [← hW2]
    have s8 := BO (sW.out.trans hk2 (fun _ h => h.elim))
    have th := BO (bu (eF ((hk2.block b1 (aI sZ.out) (fun h => h)).trans sZ.out)))
    have tC := BO (bu (eF ((hk2.block b2 (aI s7.out) (fun h => h)).trans s7.out)))
    have za := BO (mB x.pr.p x.pr y.pr W2 rfl (HX.out.kept hk2) (HY.out.kept hk2))
    obtain ⟨z0, z1, _⟩ := aH hb3
    clear hW2 hk2 hb3 x0 x1 x3 x4 x5 y0 y1 y3 y4 y5
    generalize W1.heap.size = b3 at z0 z1 ⊢
    go_wp2_with (first | (refine ag rfl _ _ rfl _ _ rfl _ th.out ?_) | (refine ag rfl _ _ rfl _ _ rfl _ tC.out ?_) | (go_at_call 114; refine za.out.mono ?_; rintro r3 w3 ⟨rfl, hk3⟩; have tn := BO (s8.out.trans hk3 (fun _ h => h.elim)); clear hk3 za th tC z0 z1))
    go_ret
    exact ⟨by rw [HR.out]; rfl, tn.out⟩
  ·have a1 : cx x.kind y.kind 1 1 = false := by unfold cx; rw [Bool.and_eq_false_iff, decide_eq_false_iff_not, decide_eq_false_iff_not]; omega
   have a2 : cx x.kind y.kind 2 2 = false := by unfold cx; rw [Bool.and_eq_false_iff, decide_eq_false_iff_not, decide_eq_false_iff_not]; omega
   have a3 : cx x.kind y.kind 3 3 = false := by unfold cx; rw [Bool.and_eq_false_iff, decide_eq_false_iff_not, decide_eq_false_iff_not]; omega
   have HR := BO (show RC.same x.c y.c = false by
    rw [Bool.eq_false_iff]
    intro h
    obtain ⟨e1, _, e3⟩ := cp.1 h
    refine hk ⟨e1, ?_⟩
    rcases e3 with e | ⟨e, _⟩ | ⟨e, _⟩
    ·exact .inl e
    ·exact .inr (.inl e)
    ·exact .inr (.inr e))
   clear ht hk HP HX HY
   go_enter Tryz.func74, Tryz.ntmps74
   go_upto_region 1 with fail
   rw [← sR.out]
   clear sR
   generalize w.heap.size + 1 = b2 at s7 ⊢
   generalize w.heap.size = b1 at sZ ⊢
   obtain ⟨x0, x1, x3, x4, x5⟩ := aY sZ.out
   obtain ⟨y0, y1, y3, y4, y5⟩ := aY s7.out
   go_wp2_with fail
   go_ret
   exact ⟨by rw [HR.out]; rfl, sW.out.alloc _⟩
 ·have hq : (x.table == y.table) = false := by simpa using ht
  have hq2 : (x.table != y.table) = true := by simpa using ht
  have HR := BO (show RC.same x.c y.c = false by rw [HP.out]; simp [ht])
  clear ht HP HX HY
  go_enter Tryz.func74, Tryz.ntmps74
  go_upto_region 1 with fail
  rw [← sR.out]
  clear sR
  generalize w.heap.size + 1 = b2 at s7 ⊢
  generalize w.heap.size = b1 at sZ ⊢
  obtain ⟨x0, x1, x3, x4, x5⟩ := aY sZ.out
  obtain ⟨y0, y1, y3, y4, y5⟩ := aY s7.out
  go_wp2_with fail
  go_ret
  exact ⟨by rw [HR.out]; rfl, sW.out⟩
theorem ownF_C {w : World} {b1 b2 b3 q : Nat} {o : Int} {c : ClmE} {hv wv : Value} (h1 : w.heap[b1]? = some (.cells #[.int .i64 o] 3 (0, 0))) (h2 : w.heap[b2]? = some (.cells #[.pointer (some ⟨q, 0, none⟩)] 74 (0, 0))) (h3 : w.heap[b3]? = some (.cells (ccC c) 37 (0, 0)))
  (hq : w.heap[q]? = some (.cells #[.func (.func 74) #[] #[], .func (.func 75) #[] #[], .func (.func 76) #[] #[], .func (.func 77) #[] #[], hv, wv] tQC (0, 0))) (x : EntE)
  (hx : RdCl w x.x) (hc : RdCl w c)
  : PredF 167 #[.pointer (some ⟨b1, 0, none⟩), .pointer (some ⟨b2, 0, none⟩), .pointer (some ⟨b3, 0, none⟩)] w (au x) (cw RC o (cdC c) (aG x)) := by
 refine ⟨enters_of Tryz.func167 (by kernel_rfl) rfl, fun W hW => ?_⟩
 obtain ⟨W1, hW1, hk1, hbx, hb1⟩ := bQ (aA hW h1) (au x).toArray bg
 have hk2 := hW.trans hk1 (fun _ h => h.elim)
 have sR := BO hW1
 have sW := BO hk1
 have tu := BO hbx
 obtain ⟨c0, _⟩ := aM hb1
 obtain ⟨d0, _⟩ := aM (ev hk2 h2)
 have wk := BO (ay (w := W1.drew) (ai (w := W1.drew) (ev hk2.drew h3)))
 have HX := BO (hx.kept hk2)
 have HC := BO (hc.kept hk2)
 obtain ⟨q0, q1, q2, q3, q4, q5, _⟩ := a7 (ev hk2 hq)
 clear h1 h2 h3 hq hW hW1 hk1 hk2 hbx hb1
 show Calls Tryz.prog 167 #[.agg (au x).toArray, .pointer (some ⟨b1, 0, none⟩), .pointer (some ⟨b2, 0, none⟩), .pointer (some ⟨b3, 0, none⟩)] W _
 by_cases ho : x.o = o
 ·have HO := BO (show cw RC o (cdC c) (aG x) = RC.same (aG x).c (cdC c) by unfold cw; simp [ho])
  rw [HO.out]
  go_enter Tryz.func167, Tryz.ntmps167
  go_upto_region 1 with fail
  rw [← sR.out]
  clear sR HO
  generalize W.heap.size = bx at tu ⊢
  obtain ⟨x0, _⟩ := d5 tu.out
  have tA := BO (ay (w := W1.drew) (dR (w := W1.drew) tu.out))
  rw [ho] at x0
  clear ho
  refine af [(0, false, 13), (1, false, 13), (2, false, 13), (3, false, 13), (4, false, 13), (5, false, 13), (6, false, 13), (7, false, 13), (8, false, 13), (9, false, 13), (10, false, 13), (11, false, 13), (12, false, 13), (13, true, 0), (14, false, 999), (15, false, 999)] (by kernel_rfl) (by kernel_rfl) ?_
  iterate 5 (refine ae rfl rfl (fun K hK => ?_); (first | ((refine aj _ _ rfl _ _ rfl _ tA.out ?_); go_simp) | ((refine aj _ _ rfl _ _ rfl _ wk.out ?_); go_simp) | go_simp); refine hK _ ?_; clear hK K)
  iterate 8 (first | (refine am rfl rfl ?_; simp only [Act.put, BP, BQ, BR, BS, BT, BU]) | (refine ak rfl rfl (fun K hK => ?_); (first | ((refine aj _ _ rfl _ _ rfl _ tA.out ?_); go_simp) | ((refine aj _ _ rfl _ _ rfl _ wk.out ?_); go_simp) | go_simp); refine hK _ ?_; clear hK K))
  refine al rfl ?_
  refine aw rfl (fun K hK => ?_)
  go_simp
  refine (eR HX.out.drew HC.out.drew).mono ?_
  rintro e2 w2 ⟨rfl, hk⟩
  have s8 := BO (sW.out.drew.trans hk (fun _ h => h.elim))
  clear hk
  refine hK _ _ ?_
  clear hK K
  refine wpList_nil ?_
  refine And.intro ?_ ?_
  ·go_simp
  iterate 2 (refine ae rfl rfl (fun K hK => ?_); (first | ((refine aj _ _ rfl _ _ rfl _ tA.out ?_); go_simp) | ((refine aj _ _ rfl _ _ rfl _ wk.out ?_); go_simp) | go_simp); refine hK _ ?_; clear hK K)
  refine ap ?_
  go_wp2_with fail
  go_ret
  exact ⟨rfl, s8.out⟩
 ·have HO := BO (show cw RC o (cdC c) (aG x) = false by unfold cw; simp [ho])
  have hne : (x.o == o) = false := by simpa using ho
  go_enter Tryz.func167, Tryz.ntmps167
  go_upto_region 1 with fail
  rw [← sR.out]
  clear sR
  generalize W.heap.size = bx at tu ⊢
  have x0 := (d5 tu.out).1
  clear ho
  refine af [(0, false, 13), (1, false, 13), (2, false, 13), (3, false, 13), (4, false, 13), (5, false, 13), (6, false, 13), (7, false, 13), (8, false, 13), (9, false, 13), (10, false, 13), (11, false, 13), (12, false, 13), (13, true, 0), (14, false, 999), (15, false, 999)] (by kernel_rfl) (by kernel_rfl) ?_
  iterate 5 (refine ae rfl rfl (fun K hK => ?_); go_simp; refine hK _ ?_; clear hK K)
  iterate 8 (first | (refine am rfl rfl ?_; simp only [Act.put, BP, BQ, BR, BS, BT, BU]) | (refine ak rfl rfl (fun K hK => ?_); go_simp; refine hK _ ?_; clear hK K))
  refine al rfl ?_
  refine bI rfl ?_
  simp only [Act.put, BP, BQ, BR]
  refine wpList_nil ?_
  refine And.intro ?_ ?_
  ·go_simp
  iterate 2 (refine ae rfl rfl (fun K hK => ?_); go_simp; refine hK _ ?_; clear hK K)
  refine ap ?_
  go_wp2_with fail
  go_ret
  exact ⟨by rw [HO.out]; rfl, sW.out.drew⟩
theorem pC {B w : World} {D D' : PH} {l : List HP} {q : Nat} {Q : Qm Clm} (o : Int) (c : ClmE)
  (hD : PH.le D' D) (hc : ClOk D c)
  (h : Sat B D w (bP D' q Q :: l)) :
  Calls Tryz.prog 133 #[.pointer (some ⟨q, 0, none⟩), .int .i64 o, cvC c] w fun e w' => e = .returned (.int .i64 (cl (cw RC o (cdC c)) Q.held)) ∧ Kept (fun _ => False) w w' := by
 obtain ⟨hv, wv, hs, ws, hr1, hr2, h1⟩ := aU h
 obtain ⟨W1, hW1, hk1, hb1, hb2, hb3⟩ := sE w #[.pointer (some ⟨q, 0, none⟩)] #[.int .i64 o] (ccC c) 74 3 37
 have hq1 := ev hk1 (h1.blk 0 rfl)
 have HI := BO (fg (fun x => cw RC o (cdC c) (aG x)) ((h1.own 1 rfl).rd.kept hk1 (fun _ _ h => h)) (fun x hx => ownF_C hb2 hb1 hb3 hq1 x
  (((hr1.2 x hx).mono hD).rd (h1.kept hk1)) (hc.rd (h1.kept hk1))
  ))
 rw [fB (cw RC o (cdC c)), hr1.1] at HI
 have sR := BO hW1
 have sW := BO hk1
 have vO := BO hq1
 obtain ⟨e0, _⟩ := aM hb1
 clear h h1 hr1 hr2 hW1 hk1 hb1 hb2 hb3 hq1
 generalize cl (cw RC o (cdC c)) Q.held = k at *
 go_enter Tryz.func133, Tryz.ntmps133
 go_upto_region 1 with fail
 rw [← sR.out]
 clear sR
 generalize w.heap.size + 1 + 1 = bx3 at HI ⊢
 generalize w.heap.size + 1 = bx2 at HI ⊢
 generalize w.heap.size = bx1 at HI e0 ⊢
 obtain ⟨c0, c1, c2, c3, c4, c5, cf⟩ := a7 vO.out
 go_wp2_with (go_at_call 128; refine HI.out.mono ?_; rintro e1 w1 ⟨rfl, hk2⟩; have s8 := BO (sW.out.trans hk2 (fun _ h => h.elim)); clear hk2 HI c0 c1 c2 c3 c4 c5 cf e0)
 go_ret
 exact ⟨rfl, s8.out⟩
theorem mt : (Tryz.prog.info? bg).map (fun i => (i.zero, i.size, i.bytes)) = some (some (.agg #[.int .i64 0, .int .i64 0, .int .i64 0, .int .i64 0, .bool false, .int .i64 0, .string ⟨#[]⟩, .slice none 0 0, .int .i64 0, .int .i64 0, .bool false, .int .i64 0, .string ⟨#[]⟩, .bool false, .int .i64 0, .string ⟨#[]⟩, .slice none 0 0, .bool false]), 18, 200) := by kernel_rfl
theorem pk : ∀ u ∈ (Builtin.zeroCells (Value.agg #[.int .i64 0, .int .i64 0, .int .i64 0, .int .i64 0, .bool false, .int .i64 0, .string ⟨#[]⟩, .slice none 0 0, .int .i64 0, .int .i64 0, .bool false, .int .i64 0, .string ⟨#[]⟩, .bool false, .int .i64 0, .string ⟨#[]⟩, .slice none 0 0, .bool false]).cells 1).toList, u.oneCell' = true := eq nX 1
theorem mb {B w : World} {D : PH} {l : List HP} {v : Value} {n : Nat} {xs xc : List Value} (hxc : xc.length = 18) (hx1 : ∀ u ∈ xc, u.oneCell' = true) (bx : Nat) (hb : (n + 1) * 200 ≤ 140737488355328) (hs : Sat B D w (aJ 118 18 v n xs :: blk bx xc.toArray 118 :: l)) :
  Calls Tryz.prog 137 #[v, .int .i64 n, .slice (some ⟨bx, 0, none⟩) 1 1] w fun e w' => ∃ v', e = .returned v' ∧ Sat B D w' (aJ 118 18 v' (n + 1) (xs ++ xc) :: blk bx xc.toArray 118 :: l) := by
 obtain ⟨i0, hi, hz0, hz1, hz2⟩ := info_parts mt
 have hle := (hs.own 0 rfl).le
 obtain ⟨ao, cap, hv, hnc, hcm, _⟩ := (hs.own 0 rfl).rd.2.2
 subst hv
 have hrd := aT (size := 18) (n := 1) (hs.blk 1 rfl) (by simpa using hxc) (by unfold maxLen; omega)
 unfold maxLen at hle hcm
 have HS := BO hs
 have HR := BO hrd
 have HI := BO (And.intro hi (And.intro hz0 (And.intro hz1 hz2)))
 clear hi hz0 hz1 hz2 hs hrd
 have hm1 : ¬ ((1 : Int) = 0) := by omega
 go_enter Tryz.func137, Tryz.ntmps137
 go_wp2_with (at_builtin; refine ar _ rfl _ _ 108 rfl 118 i0 _ 18 200 Tryz.underlying108 HI.out.1 HI.out.2.1 HI.out.2.2.1 HI.out.2.2.2 rfl _ n xs rfl HS.out _ 1 _ rfl HR.out (by simpa using hx1) (by unfold maxLen; omega) (by omega) ?_; intro v' w' h1 h2; have H1 := BO h1; clear h1 h2)
 all_goals
  go_ret
  exact ⟨_, rfl, by simpa using H1.out⟩
theorem oh {w : World} {bx g : Nat} {xc cur : Array Value} (h1 : w.heap[bx]? = some (.cells xc 118 (0, 0))) (h2 : w.heap[g]? = some (.cells cur 118 (0, 0))) (hne : bx ≠ g) (hc : cur.size ≠ 0) (la ca lb cb off : Nat) :
  (callFunc 170 #[.slice (some ⟨bx, 0, none⟩) la ca, .slice (some ⟨g, off, none⟩) lb cb]).run Tryz.prog w = .ok (.value (.bool false)) w := by
 rw [run_callFunc_extern Tryz.func170 (by kernel_rfl) (by kernel_rfl) (by kernel_rfl) (e := Extern.SlicesOverlaps.overlaps #[108, 108] #[4]) (by kernel_rfl),
  Lib.run_overlaps_apart w 108 4 118 Tryz.underlying108 18 (fun w => Tryz.sizeOf118 w) ⟨bx, 0, none⟩ ⟨g, off, none⟩ la ca lb cb hne 118 118 xc.size cur.size (by simp [World.shape?, h1]) (by simp [World.shape?, h2]) hc (by simp [World.frozen?, h1]) (by simp [World.frozen?, h1])]
 rfl
theorem kI {B w : World} {D : PH} {l : List HP} {g n cap i : Nat} {xs xc ys : List Value} (hys : ys = xs.take (i * 18) ++ xc ++ xs.drop (i * 18)) (hin : i < n) (hroom : n + 1 ≤ cap) (hxc : xc.length = 18) (hx1 : ∀ u ∈ xc, u.oneCell' = true) (bx : Nat) (hs : Sat B D w (aJ 118 18 (.slice (some ⟨g, 0, none⟩) n cap) n xs :: blk bx xc.toArray 118 :: l)) :
  Calls Tryz.prog 137 #[.slice (some ⟨g, 0, none⟩) n cap, .int .i64 i, .slice (some ⟨bx, 0, none⟩) 1 1] w fun e w' => ∃ v', e = .returned v' ∧ Sat B D w' (aJ 118 18 v' (n + 1) ys :: blk bx xc.toArray 118 :: l) := by
 obtain ⟨cur, h1, hnc, hcm, hcz, hct, hc1, hxl⟩ := hs.own_row
 have hne := h1.ne 1 0 (by omega) rfl rfl
 have hsz0 : cur.toArray.size = cur.length := by simp
 have hov := oh (h1.blk 1 rfl) (h1.blk 0 rfl) hne (by omega)
 have HS := BO h1.drew
 have wu := BO hct
 have tW := BO hc1
 have xZ := BO hxl
 have wH := BO hxc
 have xC := BO hys
 have hcm' := hcm
 unfold maxLen at hcm'
 have hrd1 : Rd w.drew 18 (.slice (some ⟨g, (i * 18), none⟩) (n + 1 - i) (cap - i)) (n + 1 - i) ((cur.drop (i * 18)).take ((n + 1 - i) * 18)) := by
  refine ⟨by rw [List.length_take, List.length_drop]; omega, by omega, _, _, rfl, by omega, by omega, (fun h => by cases h), .inr ⟨g, _, rfl, fun j u hu => ?_⟩⟩
  rw [cell_of_row _ g _ _ _ _ h1.drew.heap_blk]
  rw [List.getElem?_take] at hu
  split at hu
  ·rw [List.getElem?_drop] at hu; simpa using hu
  ·cases hu
 have s5 := BO hrd1
 have ui := BO (show (((cur.drop (i * 18)).take ((n + 1 - i) * 18)).take ((n - i) * 18)) = xs.drop (i * 18) by
  rw [List.take_take, Nat.min_eq_left (by omega), ← hct, List.drop_take]
  congr 1
  omega)
 have hfree : ∀ u ∈ xs.drop (i * 18), u.oneCell' = true := fun u hu => hc1 u (List.mem_of_mem_drop hu)
 have uh := BO hfree
 clear hs h1 hct hc1 hxl hxc hys hrd1 hsz0 hfree
 have hm1 : ¬ ((1 : Int) = 0) := by omega
 have hin' : ¬ ((i : Int) = (n : Int)) := by omega
 have hw1 : IntKind.i64.wrap ((i : Int) + 1) = (i : Int) + 1 := IntWalk.i64_in _ (by omega)
 have hw2 : IntKind.i64.wrap ((n : Int) + 1) = (n : Int) + 1 := IntWalk.i64_in _ (by omega)
 have htn : ((i : Int) + 1).toNat = i + 1 := by omega
 have hb1 : (0 : Int) ≤ (i : Int) + 1 := by omega
 have hb2 : ¬ (cap = i + 1) := by omega
 have hin2 : i ≤ n := by omega
 have hb3 : (i : Int) ≤ (n : Int) + 1 := by omega
 have hb5 : i ≤ n + 1 := by omega
 have hb4 : ¬ (cap = i) := by omega
 go_enter Tryz.func137, Tryz.ntmps137
 go_wp2_with (simp only [hov])
 refine af [(0, false, 8), (1, false, 8), (2, false, 8), (3, false, 8), (4, false, 8), (5, false, 8), (6, false, 8), (7, false, 8), (8, true, 0)] (by kernel_rfl) (by kernel_rfl) ?_
 iterate 8 (refine ae rfl rfl (fun K hK => ?_); go_simp; refine hK _ ?_; clear hK K)
 refine al rfl ?_
 refine dE _ rfl _ _ 108 108 rfl 118 18 Tryz.underlying108 (fun w => Tryz.sizeOf118 w) g _ _ _ rfl cur HS.out _ _ (n - i) _ (xs.drop (i * 18)) rfl s5.out (by omega) ui.out (by omega) uh.out ?_
 intro w2 h2
 have sX := BO h2
 clear h2 HS s5 uh hov
 refine wpList_nil ?_
 refine And.intro ?_ ?_
 ·go_simp
 refine ap ?_
 have hrd := aT (size := 18) (n := 1) (sX.out.blk 1 rfl) (by simpa using wH.out) (by unfold maxLen; omega)
 have hlen2 := ep cur ((i + 1) * 18) (xs.drop (i * 18)) (by rw [List.length_drop, xZ.out]; omega)
 have zQ := BO hrd
 have tU := BO hlen2
 clear hrd hlen2
 go_wp2_with (show wpList _ _ _ (⟨some 82, _, _, _, _, _⟩ :: _) _ _; refine dE _ rfl _ _ 108 108 rfl 118 18 Tryz.underlying108 (fun w => Tryz.sizeOf118 w) g _ _ _ rfl _ sX.out _ _ 1 _ xc rfl zQ.out (by omega) (by rw [List.take_of_length_le (by simp [wH.out])]) (by rw [tU.out]; omega) (by simpa using hx1) ?_; intro w3 h3; have sU := BO h3; clear h3)
 go_ret
 refine ⟨_, rfl, sU.out.row_own (by omega) hcm (by rw [ep _ _ _ (by rw [tU.out, wH.out]; omega), tU.out]; exact hcz) ?_ ?_⟩
 ·have e := oO cur xs xc (i * 18) 18 (n * 18) wu.out (by omega) wH.out (by omega)
  have o1 : ((i + 1) * 18) = i * 18 + 18 := by omega
  have o2 : (i * 18) = i * 18 := by omega
  have o3 : (n + 1) * 18 = n * 18 + 18 := by omega
  rw [xC.out, o3, o1]
  first | exact e | (simp only [Nat.mul_one] at e ⊢; exact e)
 ·intro u hu
  rw [xC.out] at hu
  rcases List.mem_append.1 hu with hu | hu
  ·rcases List.mem_append.1 hu with hu | hu
   ·exact tW.out u (List.mem_of_mem_take hu)
   ·exact hx1 u hu
  ·exact tW.out u (List.mem_of_mem_drop hu)
theorem kF {B w : World} {D : PH} {l : List HP} {g n cap i : Nat} {xs xc ys : List Value} (hys : ys = xs.take (i * 18) ++ xc ++ xs.drop (i * 18)) (hin : i < n) (hroom : cap < n + 1) (hxc : xc.length = 18) (hx1 : ∀ u ∈ xc, u.oneCell' = true) (bx : Nat) (hb : (n + 1) * 200 ≤ 140737488355328)
  (hs : Sat B D w (aJ 118 18 (.slice (some ⟨g, 0, none⟩) n cap) n xs :: blk bx xc.toArray 118 :: l)) :
  Calls Tryz.prog 137 #[.slice (some ⟨g, 0, none⟩) n cap, .int .i64 i, .slice (some ⟨bx, 0, none⟩) 1 1] w fun e w' => ∃ v', e = .returned v' ∧ Sat B D w' (aJ 118 18 v' (n + 1) ys :: blk bx xc.toArray 118 :: l) := by
 obtain ⟨i0, hi, hz0, hz1, hz2⟩ := info_parts mt
 have ho := hs.own 0 rfl
 have hle := ho.le
 obtain ⟨_, _, hv, hnc, hcm, _⟩ := ho.rd.2.2
 cases hv
 have hxl := ho.1
 have hc1 := ho.2.1
 unfold maxLen at hle hcm
 have holds : ∀ j v, (xs.take (i * 18))[j]? = some v → w.cell? ((⟨g, 0, none⟩ : Addr).add j) = some v := fun j v hj => by
  rw [bZ, Nat.zero_add]
  rw [List.getElem?_take] at hj
  split at hj
  ·exact ho.cells j v hj
  ·cases hj
 have HS := BO hs
 have HI := BO (And.intro hi (And.intro hz0 (And.intro hz1 hz2)))
 have x9 := BO holds
 have xZ := BO hxl
 have tW := BO hc1
 have wH := BO hxc
 have xC := BO hys
 clear hs hi hz0 hz1 hz2 holds hxl hc1 hxc hys ho
 have hm1 : ¬ ((1 : Int) = 0) := by omega
 have hin' : ¬ ((i : Int) = (n : Int)) := by omega
 have hcc : (cap : Int) < (n : Int) + 1 := by omega
 have hw1 : IntKind.i64.wrap ((i : Int) + 1) = (i : Int) + 1 := IntWalk.i64_in _ (by omega)
 have hw2 : IntKind.i64.wrap ((n : Int) + 1) = (n : Int) + 1 := IntWalk.i64_in _ (by omega)
 have hw3 : IntKind.i64.wrap ((n : Int) + 1 - (i : Int)) = (n : Int) + 1 - (i : Int) := IntWalk.i64_in _ (by omega)
 have htn : ((i : Int) + 1).toNat = i + 1 := by omega
 have hb1 : (0 : Int) ≤ (i : Int) + 1 := by omega
 have hb4 : ¬ (cap = i) := by omega
 have hin2 : i ≤ n := by omega
 have hb3 : (i : Int) ≤ (n : Int) + 1 := by omega
 have hb5 : i ≤ n + 1 := by omega
 go_enter Tryz.func137, Tryz.ntmps137
 go_upto_region 10 with (show wpList _ _ _ (⟨some 40, _, _, _, _, _⟩ :: _) _ _; refine fz _ rfl _ _ 108 3 rfl 118 i0 _ 18 200 Tryz.underlying108 Tryz.underlying3 HI.out.1 HI.out.2.1 HI.out.2.2.1 HI.out.2.2.2 rfl nX ⟨g, 0, none⟩ i cap rfl _ (by rw [List.length_take, xZ.out]; omega) x9.out (fun u hu => tW.out u (List.mem_of_mem_take hu)) (n + 1 - i) (by simp [Act.eval]; omega) (by omega) (by omega) (by unfold maxLen; omega) (by omega) HS.out ?_; intro w2 g2 cap2 zs hzs hcap2 h2; rw [show i + (n + 1 - i) = n + 1 by omega] at h2 hcap2; have H2 := BO h2; have tY := BO hzs; clear h2 hzs)
 obtain ⟨cur, h1, _, hcm2, hcz, hct, hc2, hcl⟩ := H2.out.own_row
 have hrx := aT (size := 18) (n := 1) (h1.blk 2 rfl) (by simpa using wH.out) (by unfold maxLen; omega)
 have hg1 : ¬ (cap2 = i) := by omega
 have hg2 : ¬ (cap2 = i + 1) := by omega
 have H1 := BO h1
 have zQ := BO hrx
 have wu := BO hct
 have wM := BO hcm2
 clear h1 hrx hct hc2 hcl H2 x9 HI HS
 unfold maxLen at hcm2
 go_upto_region 11 with (show wpList _ _ _ (⟨some 45, _, _, _, _, _⟩ :: _) _ _; refine dE _ rfl _ _ 108 108 rfl 118 18 Tryz.underlying108 (fun w => Tryz.sizeOf118 w) g2 _ _ _ rfl _ H1.out _ _ 1 _ xc rfl zQ.out (by omega) (by rw [List.take_of_length_le (by simp [wH.out])]) (by omega) (by simpa using hx1) ?_; intro w3 h3; have sU := BO h3; clear h3)
 have hlen2 := ep cur (i * 18) xc (by rw [wH.out]; omega)
 have hrd1 : Rd w3.drew 18 (.slice (some ⟨g, (i * 18), none⟩) (n - i) (cap - i)) (n - i) (xs.drop (i * 18)) := by
  refine ⟨by rw [List.length_drop, xZ.out]; omega, by unfold maxLen; omega, _, _, rfl, by omega, by unfold maxLen; omega, (fun h => by cases h), .inr ⟨g, _, rfl, fun j u hu => ?_⟩⟩
  rw [List.getElem?_drop] at hu
  have := (sU.out.own 1 rfl).cells _ u hu
  simpa using this
 have sY := BO sU.out.drew
 have s5 := BO hrd1
 have tU := BO hlen2
 have ui := BO (show (xs.drop (i * 18)).take ((n - i) * 18) = xs.drop (i * 18) by rw [List.take_of_length_le (by rw [List.length_drop, xZ.out]; omega)])
 have vF := BO (show ∀ u ∈ xs.drop (i * 18), u.oneCell' = true from fun u hu => tW.out u (List.mem_of_mem_drop hu))
 clear hrd1 hlen2 H1 zQ sU
 refine af [(0, false, 8), (1, false, 8), (2, false, 8), (3, false, 8), (4, false, 8), (5, false, 8), (6, false, 8), (7, false, 8), (8, true, 0)] (by kernel_rfl) (by kernel_rfl) ?_
 iterate 8 (refine ae rfl rfl (fun K hK => ?_); go_simp; refine hK _ ?_; clear hK K)
 refine al rfl ?_
 refine dE _ rfl _ _ 108 108 rfl 118 18 Tryz.underlying108 (fun w => Tryz.sizeOf118 w) g2 _ _ _ rfl _ sY.out _ _ (n - i) _ (xs.drop (i * 18)) rfl s5.out (by omega) ui.out (by rw [tU.out]; omega) vF.out ?_
 intro w5 h5
 have sV := BO (h5.swap.drop)
 have H5 := BO h5
 clear h5 sY s5 vF sV
 refine wpList_nil ?_
 refine And.intro ?_ ?_
 ·go_simp
 refine ap ?_
 go_wp2_with fail
 go_ret
 have hrow := H5.out.row_own (n := n + 1) (cap := cap2) (size := 18) (xs := ys) (by omega) wM.out (by rw [ep _ _ _ (by rw [tU.out, List.length_drop, xZ.out]; omega), tU.out]; exact hcz) ?_ ?_
 ·exact ⟨_, rfl, hrow.swap.drop⟩
 ·have o1 : ((i + 1) * 18) = i * 18 + 18 := by omega
  have o3 : (n + 1) * 18 = n * 18 + 18 := by omega
  have hct' := wu.out
  rw [o3] at hct'
  have e := m8 cur xs xc zs (i * 18) 18 (n * 18) hct' xZ.out (by omega) wH.out
  rw [xC.out, o3, o1]
  first | exact e | (simp only [Nat.mul_one] at e ⊢; exact e)
 ·intro u hu
  rw [xC.out] at hu
  rcases List.mem_append.1 hu with hu | hu
  ·rcases List.mem_append.1 hu with hu | hu
   ·exact tW.out u (List.mem_of_mem_take hu)
   ·exact hx1 u hu
  ·exact tW.out u (List.mem_of_mem_drop hu)
theorem mu {B w : World} {D : PH} {l : List HP} {v : Value} {n i : Nat} {xs xc : List Value} (hin : i ≤ n) (hxc : xc.length = 18) (hx1 : ∀ u ∈ xc, u.oneCell' = true) (bx : Nat) (hb : (n + 1) * 200 ≤ 140737488355328)
  (hs : Sat B D w (aJ 118 18 v n xs :: blk bx xc.toArray 118 :: l)) :
  Calls Tryz.prog 137 #[v, .int .i64 i, .slice (some ⟨bx, 0, none⟩) 1 1] w fun e w' => ∃ v', e = .returned v' ∧ Sat B D w' (aJ 118 18 v' (n + 1) (xs.take (i * 18) ++ xc ++ xs.drop (i * 18)) :: blk bx xc.toArray 118 :: l) := by
 have hxl := (hs.own 0 rfl).1
 by_cases h : i = n
 ·subst h
  have := mb hxc hx1 bx hb hs
  rw [List.take_of_length_le (by omega), List.drop_of_length_le (by omega), List.append_nil]
  exact this
 ·obtain ⟨g, cap, rfl, hnc, hcm⟩ := (hs.own 0 rfl).form (by omega)
  by_cases hroom : n + 1 ≤ cap
  ·exact kI rfl (by omega) hroom hxc hx1 bx hs
  ·exact kF rfl (by omega) (by omega) hxc hx1 bx hb hs
theorem oZ (w : World) : (zeroValue 118).run Tryz.prog w = .ok (.agg #[.int .i64 0, .int .i64 0, .int .i64 0, .int .i64 0, .bool false, .int .i64 0, .string ⟨#[]⟩, .slice none 0 0, .int .i64 0, .int .i64 0, .bool false, .int .i64 0, .string ⟨#[]⟩, .bool false, .int .i64 0, .string ⟨#[]⟩, .slice none 0 0, .bool false]) w := Tryz.zeroValue118 w
theorem nx {B w : World} {D : PH} {l : List HP} {v : Value} {n i : Nat} {xs ys : List Value} (hys : ys = xs.take (i * 18) ++ xs.drop ((i + 1) * 18)) (hin : i ≤ n) (hs : Sat B D w (aJ 118 18 v (n + 1) xs :: l)) :
  Calls Tryz.prog 156 #[v, .int .i64 i, .int .i64 (i + 1)] w fun e w' => ∃ v', e = .returned v' ∧ Sat B D w' (aJ 118 18 v' n ys :: l) := by
 obtain ⟨i0, hi, hz0, hz1, hz2⟩ := info_parts mt
 obtain ⟨g, cap, rfl, hnc, hcm⟩ := (hs.own 0 rfl).form (by omega)
 have ho := hs.own 0 rfl
 have hxl := ho.1
 have hc1 := ho.2.1
 have hcm' := hcm
 unfold maxLen at hcm
 have hcut := (hs.own_cut (m := i) (c := cap) (by omega) (by omega) (by omega)).drew
 have hrd1 : ∀ o, (i + 1 < cap → o = ((i + 1) * 18)) → Rd w.drew 18 (.slice (some ⟨g, o, none⟩) (n - i) (cap - (i + 1))) (n - i) (xs.drop ((i + 1) * 18)) := fun o ho' => by
  refine ⟨by rw [List.length_drop, hxl, ← Nat.sub_mul]; congr 1; omega, by unfold maxLen; omega, _, _, rfl, by omega, by unfold maxLen; omega, (fun h => by cases h), ?_⟩
  by_cases hc : n - i = 0
  ·exact .inl hc
  ·refine .inr ⟨g, _, rfl, fun j u hu => ?_⟩
   rw [ho' (by omega)]
   rw [List.getElem?_drop] at hu
   have := ho.cells _ u hu
   simpa using this
 have HC := BO hcut
 have s5 := BO hrd1
 have HI := BO (And.intro hi (And.intro hz0 (And.intro hz1 hz2)))
 have xZ := BO hxl
 have tW := BO hc1
 have xC := BO hys
 have vF := BO (show ∀ u ∈ xs.drop ((i + 1) * 18), u.oneCell' = true from fun u hu => hc1 u (List.mem_of_mem_drop hu))
 clear hs ho hxl hc1 hcut hrd1 hi hz0 hz1 hz2 hys
 have hij : ¬ ((i : Int) = (i : Int) + 1) := by omega
 have htn : ((i : Int) + 1).toNat = i + 1 := by omega
 have hb0 : (0 : Int) ≤ (i : Int) + 1 := by omega
 have hb1 : (i : Int) ≤ (i : Int) + 1 := by omega
 have hb2 : (i : Int) + 1 ≤ (n : Int) + 1 := by omega
 have hb3 : (n : Int) + 1 ≤ (cap : Int) := by omega
 have hb4 : (i : Int) ≤ (cap : Int) := by omega
 have hb5 : i ≤ cap := by omega
 have hb7 : ¬ (cap = n) := by omega
 go_enter Tryz.func156, Tryz.ntmps156
 go_upto_region 5 with (fail)
 by_cases hci : cap = i + 1
 ·have hrd := s5.out 0 (by omega)
  have HR := BO hrd
  clear hrd s5
  subst hci
  obtain rfl : n = i := by omega
  refine af [(0, false, 6), (1, false, 6), (2, false, 6), (3, false, 6), (4, false, 6), (5, false, 6), (6, true, 0), (7, false, 999)] (by kernel_rfl) (by kernel_rfl) ?_
  iterate 6 (refine ae rfl rfl (fun K hK => ?_); go_simp; refine hK _ ?_; clear hK K)
  refine al rfl ?_
  refine dY _ rfl _ _ 108 rfl 118 i0 18 Tryz.underlying108 HI.out.1 HI.out.2.2.1 g n _ _ rfl HC.out (.slice (some ⟨g, 0, none⟩) 0 0) 0 _ rfl (by simpa using HR.out) vF.out (by omega) ?_
  intro w3 h3
  rw [Nat.add_zero] at h3 ⊢
  obtain ⟨cur, h4, _, _, hcz, hct, _, hcl⟩ := h3.own_row
  have H4 := BO h4
  have wu := BO hct
  clear h3 h4 hct hcl HC HR
  refine wpList_nil ?_
  refine And.intro ?_ ?_
  ·go_simp
  refine ae rfl rfl (fun K hK => ?_); go_simp; refine hK _ ?_; clear hK K
  refine ap ?_
  go_wp2_with (show wpList _ _ _ (⟨none, .call _, _, _, _, _⟩ :: _) _ _; refine cP _ rfl _ 108 rfl 118 _ Tryz.underlying108 (fun w => oZ w) g _ 1 _ rfl cur H4.out (by omega) (by simp [size_zeroCells, Value.cells]; omega) pk ?_; intro w5 h5; have H5 := BO h5; clear h5)
  go_ret
  refine ⟨_, rfl, H5.out.row_own (by omega) hcm' (by rw [ep _ _ _ (by simp [size_zeroCells, Value.cells]; omega)]; exact hcz) ?_ ?_⟩
  ·unfold lay
   rw [List.append_assoc, List.take_append_of_le_length (by rw [List.length_take]; omega), xC.out, ← wu.out, List.take_take]
   congr 1
   omega
  ·intro u hu
   rw [xC.out] at hu
   exact (List.mem_append.1 hu).elim (fun h => tW.out u (List.mem_of_mem_take h)) (fun h => tW.out u (List.mem_of_mem_drop h))
 ·have hrd := s5.out ((i + 1) * 18) (fun _ => rfl)
  have HR := BO hrd
  clear hrd s5
  refine af [(0, false, 6), (1, false, 6), (2, false, 6), (3, false, 6), (4, false, 6), (5, false, 6), (6, true, 0), (7, false, 999)] (by kernel_rfl) (by kernel_rfl) ?_
  iterate 6 (refine ae rfl rfl (fun K hK => ?_); go_simp; refine hK _ ?_; clear hK K)
  refine al rfl ?_
  refine dY _ rfl _ _ 108 rfl 118 i0 18 Tryz.underlying108 HI.out.1 HI.out.2.2.1 g i _ _ rfl HC.out (.slice (some ⟨g, ((i + 1) * 18), none⟩) (n - i) (cap - (i + 1))) (n - i) _ rfl HR.out vF.out (by omega) ?_
  intro w3 h3
  rw [show i + (n - i) = n by omega] at h3 ⊢
  obtain ⟨cur, h4, _, _, hcz, hct, _, hcl⟩ := h3.own_row
  have H4 := BO h4
  have wu := BO hct
  clear h3 h4 hct hcl HC HR
  refine wpList_nil ?_
  refine And.intro ?_ ?_
  ·go_simp
  refine ae rfl rfl (fun K hK => ?_); go_simp; refine hK _ ?_; clear hK K
  refine ap ?_
  go_wp2_with (show wpList _ _ _ (⟨none, .call _, _, _, _, _⟩ :: _) _ _; refine cP _ rfl _ 108 rfl 118 _ Tryz.underlying108 (fun w => oZ w) g _ 1 _ rfl cur H4.out (by omega) (by simp [size_zeroCells, Value.cells]; omega) pk ?_; intro w5 h5; have H5 := BO h5; clear h5)
  go_ret
  refine ⟨_, rfl, H5.out.row_own (by omega) hcm' (by rw [ep _ _ _ (by simp [size_zeroCells, Value.cells]; omega)]; exact hcz) ?_ ?_⟩
  ·unfold lay
   rw [List.append_assoc, List.take_append_of_le_length (by rw [List.length_take]; omega), xC.out, ← wu.out, List.take_take]
   congr 1
   omega
  ·intro u hu
   rw [xC.out] at hu
   exact (List.mem_append.1 hu).elim (fun h => tW.out u (List.mem_of_mem_take h)) (fun h => tW.out u (List.mem_of_mem_drop h))
theorem nk {w : World} {v1 v2 : Value} {l1 l2 : List Val} (h1 : cO w v1 l1) (h2 : cO w v2 l2) :
  Calls Tryz.prog 193 #[v1, v2] w fun e w' => e = .returned (.bool (decide (l1 = l2))) ∧ ∃ n, w' = w.drewN n := by
 obtain ⟨_, m1, a1, c1, rfl, n1, _, _, g1⟩ := h1
 obtain ⟨_, m2, a2, c2, rfl, n2, _, _, g2⟩ := h2
 unfold maxLen at m1 m2
 by_cases hlen : l1.length = l2.length
 ·rw [← hlen] at g2
  have G1 := BO g1
  have G2 := BO g2
  clear g1 g2
  generalize hL : l1.length = L at *
  rw [← hlen]
  go_enter Tryz.func193, Tryz.ntmps193
  go_wp2_with fail
  go_loopw [13] (fun i wr => ∃ k : Nat, i = .int .i64 k ∧ k ≤ L ∧ l1.take k = l2.take k ∧ ∃ n, wr = w.drewN n) (fun i _ => L - (intOf i).toNat)
  case atStart => exact ⟨0, rfl, by omega, rfl, 0, rfl⟩
  case round =>
   obtain ⟨k, rfl, hk, ht, n0, rfl⟩ := hrel
   have HT := BO ht
   clear ht
   by_cases hlt : k < L
   ·obtain ⟨a, ha⟩ : ∃ a, l1[k]? = some a := ⟨l1[k]'(by omega), List.getElem?_eq_getElem (by omega)⟩
    obtain ⟨b, hb⟩ : ∃ b, l2[k]? = some b := ⟨l2[k]'(by omega), List.getElem?_eq_getElem (by omega)⟩
    rcases G1.out with h0 | ⟨b1, o1, rfl, hc1⟩
    ·omega
    rcases G2.out with h0 | ⟨b2, o2, rfl, hc2⟩
    ·omega
    have x0 := hc1 _ _ (bF Val.len l1 k a ha 0 _ rfl)
    have x1 := hc1 _ _ (bF Val.len l1 k a ha 1 _ rfl)
    have x2 := hc1 _ _ (bF Val.len l1 k a ha 2 _ rfl)
    have y0 := hc2 _ _ (bF Val.len l2 k b hb 0 _ rfl)
    have y1 := hc2 _ _ (bF Val.len l2 k b hb 1 _ rfl)
    have y2 := hc2 _ _ (bF Val.len l2 k b hb 2 _ rfl)
    rw [Nat.add_zero] at x0 y0
    rw [← Nat.add_assoc] at x1 x2 y1 y2
    have HA := BO ha
    have HB := BO hb
    clear ha hb hc1 hc2
    by_cases hab : a = b
    ·subst hab
     go_wp2_with fail
     go_quiet (fail)
     go_wp2_with fail
     go_roundw
     case rel => exact ⟨k + 1, by go_num, by omega, du HT.out HA.out HB.out, _, rfl⟩
     case measure => simp [intOf]; omega
    ·have hv : b6 a.t a.n a.s b.t b.n b.s = false := by rw [bH]; exact decide_eq_false hab
     have hne : decide (l1 = l2) = false := decide_eq_false (fun e => by
      have h1 := HA.out
      have h2 := HB.out
      rw [e, h2] at h1
      exact hab (Option.some.inj h1).symm)
     have uU := BO hne
     clear hne
     go_wp2_with fail
     go_quiet (fail)
     go_wp2_with fail
     go_ret
     exact ⟨by rw [uU.out]; rfl, _, World.drewN_drewN _ _ _⟩
   ·have heq : decide (l1 = l2) = true := decide_eq_true (ey HT.out (by omega) (by omega))
    have wj := BO heq
    clear heq
    go_wp2_with fail
    go_ret
    exact ⟨by rw [wj.out]; rfl, n0, rfl⟩
 ·have hne : decide (l1 = l2) = false := decide_eq_false (fun e => hlen (by rw [e]))
  have hbe : ((l1.length : Int) == (l2.length : Int)) = false := by simp; omega
  have uU := BO hne
  clear hne g1 g2
  go_enter Tryz.func193, Tryz.ntmps193
  go_wp2_with fail
  go_ret
  exact ⟨by rw [uU.out]; rfl, 0, rfl⟩
theorem nl {w : World} {v1 v2 : Value} {l1 l2 : List Val} (h1 : cO w v1 l1) (h2 : cO w v2 l2) :
  Calls Tryz.prog 96 #[v1, v2] w fun e w' => e = .returned (.bool (decide (l1 = l2))) ∧ ∃ n, w' = w.drewN n := by
 obtain ⟨_, m1, a1, c1, rfl, n1, _, _, g1⟩ := h1
 obtain ⟨_, m2, a2, c2, rfl, n2, _, _, g2⟩ := h2
 unfold maxLen at m1 m2
 by_cases hlen : l1.length = l2.length
 ·rw [← hlen] at g2
  have G1 := BO g1
  have G2 := BO g2
  clear g1 g2
  generalize hL : l1.length = L at *
  rw [← hlen]
  go_enter Tryz.func96, Tryz.ntmps96
  go_wp2_with fail
  go_loopw [5] (fun i wr => ∃ k : Nat, i = .int .i64 k ∧ k ≤ L ∧ l1.take k = l2.take k ∧ ∃ n, wr = w.drewN n) (fun i _ => L - (intOf i).toNat)
  case atStart => exact ⟨0, rfl, by omega, rfl, 0, rfl⟩
  case round =>
   obtain ⟨k, rfl, hk, ht, n0, rfl⟩ := hrel
   have HT := BO ht
   clear ht
   by_cases hlt : k < L
   ·obtain ⟨a, ha⟩ : ∃ a, l1[k]? = some a := ⟨l1[k]'(by omega), List.getElem?_eq_getElem (by omega)⟩
    obtain ⟨b, hb⟩ : ∃ b, l2[k]? = some b := ⟨l2[k]'(by omega), List.getElem?_eq_getElem (by omega)⟩
    rcases G1.out with h0 | ⟨b1, o1, rfl, hc1⟩
    ·omega
    rcases G2.out with h0 | ⟨b2, o2, rfl, hc2⟩
    ·omega
    have x0 := hc1 _ _ (bF Val.len l1 k a ha 0 _ rfl)
    have x1 := hc1 _ _ (bF Val.len l1 k a ha 1 _ rfl)
    have x2 := hc1 _ _ (bF Val.len l1 k a ha 2 _ rfl)
    have y0 := hc2 _ _ (bF Val.len l2 k b hb 0 _ rfl)
    have y1 := hc2 _ _ (bF Val.len l2 k b hb 1 _ rfl)
    have y2 := hc2 _ _ (bF Val.len l2 k b hb 2 _ rfl)
    rw [Nat.add_zero] at x0 y0
    rw [← Nat.add_assoc] at x1 x2 y1 y2
    have HA := BO ha
    have HB := BO hb
    clear ha hb hc1 hc2
    by_cases hab : a = b
    ·subst hab
     go_wp2_with fail
     go_quiet (fail)
     go_wp2_with fail
     go_roundw
     case rel => exact ⟨k + 1, by go_num, by omega, du HT.out HA.out HB.out, _, rfl⟩
     case measure => simp [intOf]; omega
    ·have hv : b6 a.t a.n a.s b.t b.n b.s = false := by rw [bH]; exact decide_eq_false hab
     have hne : decide (l1 = l2) = false := decide_eq_false (fun e => by
      have h1 := HA.out
      have h2 := HB.out
      rw [e, h2] at h1
      exact hab (Option.some.inj h1).symm)
     have uU := BO hne
     clear hne
     go_wp2_with fail
     go_quiet (fail)
     go_wp2_with fail
     go_ret
     exact ⟨by rw [uU.out]; rfl, _, World.drewN_drewN _ _ _⟩
   ·have heq : decide (l1 = l2) = true := decide_eq_true (ey HT.out (by omega) (by omega))
    have wj := BO heq
    clear heq
    go_wp2_with fail
    go_ret
    exact ⟨by rw [wj.out]; rfl, n0, rfl⟩
 ·have hne : decide (l1 = l2) = false := decide_eq_false (fun e => hlen (by rw [e]))
  have hbe : ((l1.length : Int) == (l2.length : Int)) = false := by simp; omega
  have uU := BO hne
  clear hne g1 g2
  go_enter Tryz.func96, Tryz.ntmps96
  go_wp2_with fail
  go_ret
  exact ⟨by rw [uU.out]; rfl, 0, rfl⟩
theorem oL {w : World} {v1 v2 : Value} {l1 l2 : List Val} (h1 : cO w v1 l1) (h2 : cO w v2 l2) :
  Calls Tryz.prog 164 #[v1, v2] w fun e w' => e = .returned (.bool (decide (l1 = l2))) ∧ ∃ n, w' = w.drewN n := by
 have HE := BO (nk h1 h2)
 clear h1 h2
 generalize decide (l1 = l2) = r at *
 go_enter Tryz.func164, Tryz.ntmps164
 go_wp2_with (go_at_call 193; refine HE.out.mono ?_; rintro e1 w1 ⟨rfl, n, rfl⟩; clear HE)
 go_ret
 exact ⟨rfl, n, rfl⟩
theorem nj {w : World} {v : Value} {xs : List (PredE)} {F : Nat} {caps : Array Value} (p : PredE → Bool) (hrd : Rd w 9 v xs.length (xs.flatMap PredE.cells)) (HF : ∀ x ∈ xs, PredF F caps w (PredE.cells x) (p x)) :
  Calls Tryz.prog 203 #[v, .func (.func F) #[] caps] w fun e w' => e = .returned (.int .i64 (cl p xs)) ∧ Kept (fun _ => False) w w' := by
 obtain ⟨_, hml, ao, cap, rfl, hnc, hcm, _⟩ := id hrd
 unfold maxLen at hml hcm
 have s5 := BO hrd
 have t7 := BO HF
 clear hrd HF
 obtain ⟨N, hN⟩ : ∃ N, xs.length = N := ⟨_, rfl⟩
 have HN := BO hN
 rw [hN] at s5 hml hnc ⊢
 clear hN
 go_enter Tryz.func203, Tryz.ntmps203
 go_wp2_with fail
 go_loopw [8] (fun i wr => ∃ j : Nat, i = .int .i64 j ∧ j ≤ N ∧ (∀ x ∈ xs.take j, p x = false) ∧ Kept (fun _ => False) w wr) (fun i _ => N - (intOf i).toNat)
 case atStart => exact ⟨0, rfl, by omega, fun x hx => by simp at hx, Kept.refl _ _⟩
 case round =>
  obtain ⟨j, rfl, hj, hp, hk⟩ := hrel
  have HP := BO hp
  have HK := BO hk
  clear hp hk
  by_cases hlt : j < N
  ·have hi : (j : Int) < (N : Int) := by omega
   obtain ⟨x, hx⟩ : ∃ x, xs[j]? = some x := ⟨xs[j]'(by rw [HN.out]; exact hlt), List.getElem?_eq_getElem _⟩
   obtain ⟨g, o, rfl, hrng⟩ := aD PredE.len (s5.out.kept HK.out (fun _ _ h => h)) hx HN.out
   have HL := BO (bu hrng)
   have HX := BO hx
   obtain ⟨hent, hcall⟩ := t7.out x (List.mem_of_getElem? hx)
   unfold Enters at hent
   have HC := BO (hcall wr HK.out)
   clear hx hrng hcall
   cases hpx : p x
   ·rw [hpx] at HC
    have up := BO hpx
    clear hpx
    go_wp2_with (first | (refine ag rfl _ _ rfl _ _ rfl _ HL.out ?_) | (refine HC.out.mono ?_; rintro e1 w1 ⟨rfl, hk1⟩; have sW := BO (HK.out.trans hk1 (fun _ h => h.elim)); clear hk1 HC HL))
    go_roundw
    case rel => exact ⟨j + 1, by go_num, by omega, cN HP.out HX.out up.out, sW.out⟩
    case measure => simp [intOf]; omega
   ·rw [hpx] at HC
    have up := BO hpx
    clear hpx
    go_wp2_with (first | (refine ag rfl _ _ rfl _ _ rfl _ HL.out ?_) | (refine HC.out.mono ?_; rintro e1 w1 ⟨rfl, hk1⟩; have sW := BO (HK.out.trans hk1 (fun _ h => h.elim)); clear hk1 HC HL))
    go_ret
    exact ⟨by rw [eN HP.out HX.out up.out]; rfl, sW.out⟩
  ·have hi : ¬ ((j : Int) < (N : Int)) := by omega
   have he : cl p xs = -1 := dt (by have := HP.out; rwa [List.take_of_length_le (by rw [HN.out]; omega)] at this)
   have HE := BO he
   clear he
   go_wp2_with fail
   go_ret
   exact ⟨by rw [HE.out]; rfl, HK.out⟩
theorem gz {w : World} {v : Value} {xs : List (PredE)} {F : Nat} {caps : Array Value} (p : PredE → Bool) (hrd : Rd w 9 v xs.length (xs.flatMap PredE.cells)) (HF : ∀ x ∈ xs, PredF F caps w (PredE.cells x) (p x)) :
  Calls Tryz.prog 190 #[v, .func (.func F) #[] caps] w fun e w' => e = .returned (.bool (xs.any p)) ∧ Kept (fun _ => False) w w' := by
 have H := BO (nj p hrd HF)
 rw [← ib]
 clear hrd HF
 generalize cl p xs = k at *
 go_enter Tryz.func190, Tryz.ntmps190
 go_wp2_with (go_at_call 203; refine H.out.mono ?_; rintro e1 w1 ⟨rfl, hk1⟩; have sW := BO hk1; clear hk1 H)
 go_ret
 exact ⟨rfl, sW.out⟩
end Go.Proofs.YtgljdkjepdknnaaGreatDoor
