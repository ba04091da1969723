/- Joined texts: The document's answer: Put over rows of pairs (ratlineref05), by the program. Arguments of the tree's laws as they read: their texts fit. -/
import Derived.Test.YtjijemeabfiipaaJ26
import Derived.Test.YtjijemeabfiipaaJ14
import Derived.Test.YtjijemeabfiipaaJ13
/- The document's answer: Put over rows of pairs (ratlineref05), by the program. -/
namespace Go.Proofs.Ytjijemeabfiipaa
open Go.ChangeShapes Go.WideShapes Go.ChangeAt Go.RowKit
set_option maxRecDepth 100000
set_option linter.unusedSimpArgs false

set_option maxHeartbeats 8000000 in
theorem rput_ok {B w : World} {D : PH} {v : Value} {L : PL} {l : List HP} (k : Val) (x : VT) (hkf : k.fits) (hfl : FitsL L) (hsort : SortedL L) (hL : L.length ≤ 1000000) (h : Sat B D w (rowP v L :: l)) :
    Calls Try.prog 35 #[v, k.v, .int .i64 x] w fun e w' => ∃ v', e = .returned (.tuple #[v', .bool (putB L k)]) ∧ Sat B D w' (rowP v' (putL L k x) :: l) := by
  have h1 := h.alloc #[.bool k.t, .int .i64 k.n, .string k.s] tV
  obtain ⟨ao, cap, rfl⟩ := h.own_shape
  have HS := Lib.hid h1
  obtain ⟨i0, hi, hz0, hz1, hz2⟩ := info_parts infoPair
  have HI := Lib.hid (And.intro hi (And.intro hz0 (And.intro hz1 hz2)))
  obtain ⟨N, hN⟩ : ∃ N, L.length = N := ⟨_, rfl⟩
  have HN := Lib.hid hN
  have HKF := Lib.hid hkf
  have HFL := Lib.hid hfl
  have HSO := Lib.hid hsort
  have e1 : rowP (.slice ao L.length cap) L = ownS tP 4 (.slice ao N cap) N (L.flatMap pcells) := by unfold rowP; rw [hN]
  rw [hN] at hL ⊢
  rw [e1] at HS
  clear h h1 hN hi hz0 hz1 hz2 e1 hkf hfl hsort
  dsimp only [Val.v]
  go_enter Try.func35, Try.ntmps35
  go_upto_region 1 with (fail)
  obtain ⟨W, hW⟩ : ∃ W, W = w.alloc (.cells #[.bool k.t, .int .i64 k.n, .string k.s] tV) := ⟨_, rfl⟩
  rw [← hW] at HS ⊢
  clear hW
  revert HS
  generalize w.heap.size = bk
  intro HS
  obtain ⟨x0, x1, x2, xf⟩ := cells3 (HS.out.blk 0 rfl)
  cases hr : valRight k
  · have HR := Lib.hid hr
    clear hr
    go_wp2_with ((go_at_call 26; refine (rright_ok k _).mono ?_; rw [HR.out]; rintro e1 w1 ⟨rfl, hk1⟩; have HS1 := Lib.hid (HS.out.kept hk1); clear hk1))
    go_ret2
    refine ⟨.slice ao N cap, by unfold putB; rw [HR.out]; rfl, ?_⟩
    have h3 := HS1.out.drop
    unfold putL
    rw [HR.out]
    unfold rowP
    rw [if_neg (by simp), HN.out]
    exact h3
  · have HR := Lib.hid hr
    clear hr
    go_upto_region 8 with ((go_at_call 26; refine (rright_ok k _).mono ?_; rw [HR.out]; rintro e1 w1 ⟨rfl, hk1⟩; have HS1 := Lib.hid ((HS.out.kept hk1).own_nil tP 4); clear hk1 x0 x1 x2 xf))
    go_wp2_with fail
    go_loopw [9, 10, 11, 12, 13] (fun out dn fr i _ wr => ∃ (j : Nat) (dn' fr' : Bool) (O : PL), i = .int .i64 j ∧ dn = .bool dn' ∧ fr = .bool fr' ∧ j ≤ N ∧ PutS (L.take j) k x O dn' fr' ∧ Sat B D wr (rowP out O :: blk bk #[.bool k.t, .int .i64 k.n, .string k.s] tV :: ownS tP 4 (.slice ao N cap) N (L.flatMap pcells) :: l)) (fun _ _ _ i _ _ => N - (intOf i).toNat)
    case atStart => exact ⟨0, false, true, [], rfl, rfl, rfl, by omega, .inl ⟨rfl, rfl, by simp, rfl⟩, HS1.out⟩
    case round =>
      obtain ⟨j, dn, fr, O, rfl, rfl, rfl, hj, hps, hs⟩ := hrel
      obtain ⟨o1, c1, rfl⟩ := hs.own_shape
      by_cases hlt : j < N
      · obtain ⟨p, hp⟩ : ∃ p, L[j]? = some p := ⟨L[j]'(by rw [HN.out]; exact hlt), List.getElem?_eq_getElem _⟩
        have hrd := (hs.own 2 rfl).rd
        obtain ⟨g, og, rfl⟩ := pair_src hrd hp HN.out
        obtain ⟨y0, y1, y2, y3⟩ := pair_cells hrd hp
        obtain ⟨x0, x1, x2, xf⟩ := cells3 (hs.blk 1 rfl)
        have hi : (j : Int) < (N : Int) := by omega
        have HPF := Lib.hid (HFL.out p (List.mem_of_getElem? hp))
        have hl1 : O.length ≤ j + 1 := by
          have := hps.len (HSO.out.sublist (List.take_sublist _ _))
          rw [List.length_take] at this
          omega
        have HP := Lib.hid hp
        have HPS := Lib.hid hps
        generalize hcl : O.length = M at hl1
        have HCL := Lib.hid hcl
        have HS2 := Lib.hid (show Sat B D wr (ownS tP 4 (.slice o1 M c1) M (O.flatMap pcells) :: _) by have := hs; unfold rowP at this; rw [hcl] at this; exact this)
        clear hp hrd hs hcl hps
        go_upto_region 10 with (fail)
        refine wp_region_canon [(0, false, 6), (1, false, 6), (2, false, 6), (3, false, 6), (4, false, 6), (5, false, 6), (6, true, 0), (7, false, 999)] (by kernel_rfl) (by kernel_rfl) ?_
        iterate 6 (refine wpCan_read rfl rfl (fun K hK => ?_); go_simp; refine hK _ ?_; clear hK K)
        refine wpCan_eff rfl ?_
        refine wpList_do rfl (fun K hK => ?_)
        go_simp
        refine (rcmp_ok p.1 k HPF.out HKF.out _).mono ?_
        rintro e3 w3 ⟨rfl, hk3⟩
        have HS3 := Lib.hid (HS2.out.drew.kept hk3)
        clear hk3 y0 y1 y2 y3 x0 x1 x2 xf
        refine hK _ _ ?_
        clear hK K
        refine wpList_nil ?_
        refine And.intro ?_ ?_
        · go_simp
        iterate 1 (refine wpCan_read rfl rfl (fun K hK => ?_); go_simp; refine hK _ ?_; clear hK K)
        refine wpCan_nil ?_
        obtain ⟨y0, y1, y2, y3⟩ := pair_cells (HS3.out.own 2 rfl).rd HP.out
        obtain ⟨x0, x1, x2, xf⟩ := cells3 (HS3.out.blk 1 rfl)
        have hc3 := cmp_three p.1 k
        generalize hcc : valCmp p.1 k = c at hc3 ⊢
        have HC := Lib.hid hcc
        clear hcc
        rcases hc3 with rfl | rfl | rfl
        · have hq := HPS.out.lt HSO.out HP.out (by have := HC.out; omega)
          obtain ⟨rfl, hq2⟩ := hq
          have HQ := Lib.hid hq2
          have HSN := Lib.hid (snoc_src HS3.out p)
          have HPO := Lib.hid (pone p)
          clear hq2
          go_wp2_with ((at_builtin; refine wpList_append_Sat _ rfl _ _ tPs rfl tP i0 _ 4 40 Try.underlying33 HI.out.1 HI.out.2.1 HI.out.2.2.1 HI.out.2.2.2 rfl _ _ _ rfl (HSN.out.1 0) _ 1 _ rfl (HSN.out.2 0) HPO.out (by unfold maxLen; omega) (by omega) ?_; intro v2 w2 h2 h2o; have H2 := Lib.hid (h2.swap.drop); clear h2 h2o))
          go_roundw
          case rel =>
            refine ⟨j + 1, false, fr, O ++ [p], by go_num, rfl, rfl, by omega, HQ.out, rowP_snoc ?_⟩
            rw [HCL.out]
            exact H2.out
          case measure => simp [intOf]; omega
        · have HQ := Lib.hid (HPS.out.eq HSO.out HP.out HC.out)
          have HSN := Lib.hid (snoc_src HS3.out (k, x))
          have HPO := Lib.hid (pone (k, x))
          rcases (show dn = false ∨ dn = true by cases dn <;> simp) with rfl | rfl
          all_goals
            go_wp2_with ((at_builtin; refine wpList_append_Sat _ rfl _ _ tPs rfl tP i0 _ 4 40 Try.underlying33 HI.out.1 HI.out.2.1 HI.out.2.2.1 HI.out.2.2.2 rfl _ _ _ rfl (HSN.out.1 0) _ 1 _ rfl (HSN.out.2 0) HPO.out (by unfold maxLen; omega) (by omega) ?_; intro v2 w2 h2 h2o; have H2 := Lib.hid (h2.swap.drop); clear h2 h2o x0 x1 x2 xf y0 y1 y2 y3))
            go_roundw
            case rel =>
              refine ⟨j + 1, true, false, O ++ [(k, x)], by go_num, rfl, rfl, by omega, HQ.out, rowP_snoc ?_⟩
              rw [HCL.out]
              exact H2.out
            case measure => simp [intOf]; omega
        · rcases (show dn = false ∨ dn = true by cases dn <;> simp) with rfl | rfl
          · have HQ := Lib.hid (HPS.out.gt_new HP.out (by have := HC.out; omega))
            have HSN := Lib.hid (snoc_src HS3.out (k, x))
            have HPO := Lib.hid (pone (k, x))
            have HPO2 := Lib.hid (pone p)
            go_upto_region 13 with ((at_builtin; refine wpList_append_Sat _ rfl _ _ tPs rfl tP i0 _ 4 40 Try.underlying33 HI.out.1 HI.out.2.1 HI.out.2.2.1 HI.out.2.2.2 rfl _ _ _ rfl (HSN.out.1 0) _ 1 _ rfl (HSN.out.2 0) HPO.out (by unfold maxLen; omega) (by omega) ?_; intro v2 w2 h2 h2o; have H2 := Lib.hid (h2.swap.drop); clear h2 h2o x0 x1 x2 xf y0 y1 y2 y3))
            obtain ⟨y0, y1, y2, y3⟩ := pair_cells (H2.out.own 2 rfl).rd HP.out
            obtain ⟨o2, c2, rfl⟩ := H2.out.own_shape
            have HSN2 := Lib.hid (snoc_src H2.out p)
            go_wp2_with ((at_builtin; refine wpList_append_Sat _ rfl _ _ tPs rfl tP i0 _ 4 40 Try.underlying33 HI.out.1 HI.out.2.1 HI.out.2.2.1 HI.out.2.2.2 rfl _ _ _ rfl (HSN2.out.1 0) _ 1 _ rfl (HSN2.out.2 0) HPO2.out (by unfold maxLen; omega) (by omega) ?_; intro v3 w4 h4 h4o; have H4 := Lib.hid (h4.swap.drop); clear h4 h4o))
            go_roundw
            case rel =>
              refine ⟨j + 1, true, fr, O ++ [(k, x)] ++ [p], by go_num, rfl, rfl, by omega, HQ.out, rowP_snoc ?_⟩
              rw [List.length_append, HCL.out, List.flatMap_append, List.flatMap_singleton]
              exact H4.out
            case measure => simp [intOf]; omega
          · have HQ := Lib.hid (HPS.out.gt_old HP.out (by have := HC.out; omega))
            have HSN := Lib.hid (snoc_src HS3.out p)
            have HPO := Lib.hid (pone p)
            go_wp2_with ((at_builtin; refine wpList_append_Sat _ rfl _ _ tPs rfl tP i0 _ 4 40 Try.underlying33 HI.out.1 HI.out.2.1 HI.out.2.2.1 HI.out.2.2.2 rfl _ _ _ rfl (HSN.out.1 0) _ 1 _ rfl (HSN.out.2 0) HPO.out (by unfold maxLen; omega) (by omega) ?_; intro v2 w2 h2 h2o; have H2 := Lib.hid (h2.swap.drop); clear h2 h2o))
            go_roundw
            case rel =>
              refine ⟨j + 1, true, fr, O ++ [p], by go_num, rfl, rfl, by omega, HQ.out, rowP_snoc ?_⟩
              rw [HCL.out]
              exact H2.out
            case measure => simp [intOf]; omega
      · have hjN : j = N := by omega
        rw [List.take_of_length_le (by rw [HN.out]; omega)] at hps
        have hl1 := hps.len HSO.out
        rw [HN.out] at hl1
        have HE := Lib.hid hps.end_
        have h0 : ¬ (j : Int) < (N : Int) := by omega
        obtain ⟨x0, x1, x2, xf⟩ := cells3 (hs.blk 1 rfl)
        generalize hcl : O.length = M at hl1
        have HCL := Lib.hid hcl
        have HS2 := Lib.hid (show Sat B D wr (ownS tP 4 (.slice o1 M c1) M (O.flatMap pcells) :: _) by have := hs; unfold rowP at this; rw [hcl] at this; exact this)
        have HSN := Lib.hid (snoc_src HS2.out (k, x))
        have HPO := Lib.hid (pone (k, x))
        clear hs hjN hlt hcl hps
        rcases (show dn = false ∨ dn = true by cases dn <;> simp) with rfl | rfl
        · go_wp2_with ((at_builtin; refine wpList_append_Sat _ rfl _ _ tPs rfl tP i0 _ 4 40 Try.underlying33 HI.out.1 HI.out.2.1 HI.out.2.2.1 HI.out.2.2.2 rfl _ _ _ rfl (HSN.out.1 0) _ 1 _ rfl (HSN.out.2 0) HPO.out (by unfold maxLen; omega) (by omega) ?_; intro v2 w2 h2 h2o; have H2 := Lib.hid (h2.swap.drop); clear h2 h2o))
          go_ret2
          have h3 := H2.out.swap.drop.swap.drop
          refine ⟨v2, by unfold putB; rw [HR.out, ← HE.out.1]; rfl, ?_⟩
          unfold putL
          rw [HR.out, if_pos rfl, HE.out.2]
          refine rowP_snoc ?_
          rw [HCL.out]
          exact h3
        · go_wp2_with fail
          go_ret2
          have h3 := HS2.out.swap.drop.swap.drop
          refine ⟨.slice o1 M c1, by unfold putB; rw [HR.out, ← HE.out.1]; rfl, ?_⟩
          unfold putL
          rw [HR.out, if_pos rfl, HE.out.2]
          show Sat B D wr (rowP (.slice o1 M c1) O :: l)
          unfold rowP
          rw [HCL.out]
          exact h3
end Go.Proofs.Ytjijemeabfiipaa

/- Arguments of the tree's laws as they read: their texts fit. -/
namespace Go.Proofs.Ytjijemeabfiipaa
open Go.ChangeShapes Go.WideShapes Go.ChangeAt Go.RowKit Go.Deep
set_option maxRecDepth 100000
set_option linter.unusedSimpArgs false

section
variable {H : Type} {enc : TypeId × Value → H} {w : World} {base : Nat} {spare : Nat → Bool} {held : Bool}
theorem open_valF {fuel : Nat} {cs : List Value} {x : DataW H × List MemPlace} (h : DataW.trod enc Try.prog w base spare held fuel 24 cs = some x) : ∃ v : Val, cs = v.cells ∧ v.fits := by
  obtain ⟨y0, y1, y2, n, rfl, hl, t0, t1, t2⟩ := trod_struct3 Try.underlying24 h
  rw [cellsVal] at hl
  simp only [cellsBool, cellsI64, cellsStr] at t0 t1 t2
  match cs, hl with
  | [c0, c1, c2], _ =>
    simp only [List.drop, List.take] at t0 t1 t2
    obtain ⟨b, hb, _⟩ := DataW.trod_bool Try.underlying4 t0
    obtain ⟨z, hz, _, wz⟩ := DataW.trod_int Try.underlying2 t1
    obtain ⟨s, hs, _, ws⟩ := DataW.trod_string Try.underlying9 t2
    simp only [List.cons.injEq, and_true] at hb hz hs
    subst hb hz hs
    exact ⟨⟨b, z, s⟩, rfl, ws⟩
theorem open_actF {fuel : Nat} {cs : List Value} {x : DataW H × List MemPlace} (h : DataW.trod enc Try.prog w base spare held fuel 31 cs = some x) : ∃ a : ActT, cs = a.cells ∧ a.k.fits := by
  obtain ⟨y0, y1, y2, n, rfl, hl, t0, t1, t2⟩ := trod_struct3 Try.underlying31 h
  rw [cellsAct] at hl
  simp only [cellsBool, cellsVal, cellsInt] at t0 t1 t2
  match cs, hl with
  | [c0, c1, c2, c3, c4], _ =>
    simp only [List.drop, List.take] at t0 t1 t2
    obtain ⟨b, hb, _⟩ := DataW.trod_bool Try.underlying4 t0
    obtain ⟨k, hk, hf⟩ := open_valF t1
    obtain ⟨z, hz, _, _⟩ := DataW.trod_int Try.underlying3 t2
    simp only [List.cons.injEq, and_true] at hb hz
    simp only [Val.cells, List.cons.injEq, and_true] at hk
    obtain ⟨rfl, rfl, rfl⟩ := hk
    subst hb hz
    exact ⟨⟨b, k, z⟩, rfl, hf⟩
theorem open_spanF {fuel : Nat} {cs : List Value} {x : DataW H × List MemPlace} (h : DataW.trod enc Try.prog w base spare held fuel 26 cs = some x) : ∃ s : Spn, cs = s.cells.toList ∧ s.fits := by
  obtain ⟨y0, y1, y2, y3, y4, y5, y6, n, hl, t0, t1, t2, t3, t4, t5, t6⟩ := trod_struct7 Try.underlying26 h
  rw [cellsSpan] at hl
  simp only [cellsBool, cellsVal] at t0 t1 t2 t3 t4 t5 t6
  match cs, hl with
  | [c0, c1, c2, c3, c4, c5, c6, c7, c8, c9, c10], _ =>
      simp only [List.drop, List.take] at t0 t1 t2 t3 t4 t5 t6
      obtain ⟨b0, hb0, _⟩ := DataW.trod_bool Try.underlying4 t0
      obtain ⟨b1, hb1, _⟩ := DataW.trod_bool Try.underlying4 t1
      obtain ⟨b2, hb2, _⟩ := DataW.trod_bool Try.underlying4 t2
      obtain ⟨k3, hk3, f3⟩ := open_valF t3
      obtain ⟨b4, hb4, _⟩ := DataW.trod_bool Try.underlying4 t4
      obtain ⟨b5, hb5, _⟩ := DataW.trod_bool Try.underlying4 t5
      obtain ⟨k6, hk6, f6⟩ := open_valF t6
      simp only [List.cons.injEq, and_true] at hb0 hb1 hb2 hb4 hb5
      simp only [Val.cells, List.cons.injEq, and_true] at hk3 hk6
      obtain ⟨rfl, rfl, rfl⟩ := hk3
      obtain ⟨rfl, rfl, rfl⟩ := hk6
      subst hb0 hb1 hb2 hb4 hb5
      exact ⟨⟨b0, b1, b2, k3, b4, b5, k6⟩, rfl, f3, f6⟩
theorem open_actsF {fuel : Nat} {cs : List Value} {x : DataW H × List MemPlace} (hsp : ∀ b, spare b = true) (h : DataW.trod enc Try.prog w base spare held fuel 22 cs = some x) :
    ∃ (v : Value) (l : List ActT), cs = [v] ∧ ActsRd w v l ∧ ∀ a ∈ l, a.k.fits := by
  obtain ⟨v, l, rfl, hrd, hx⟩ := open_Rd (f := ActT.cells) (G := fun a _ => a.k.fits) Try.underlying22 cellsAct (by omega) ActT.len (fun _ _ _ _ hd => open_actF hd) hsp h
  refine ⟨v, l, rfl, hrd, fun a ha => ?_⟩
  rcases hx with ⟨_, rfl⟩ | ⟨ds, sp, _, _, hG⟩
  · simp at ha
  · obtain ⟨i, hi⟩ := List.mem_iff_getElem?.1 ha
    exact (hG i a hi).choose_spec.2
theorem open_valsF {fuel : Nat} {cs : List Value} {x : DataW H × List MemPlace} (hsp : ∀ b, spare b = true) (h : DataW.trod enc Try.prog w base spare held fuel 46 cs = some x) :
    ∃ (v : Value) (l : List Val), cs = [v] ∧ ValsRd w v l ∧ ∀ a ∈ l, a.fits := by
  obtain ⟨v, l, rfl, hrd, hx⟩ := open_Rd (f := Val.cells) (G := fun a _ => a.fits) Try.underlying46 cellsVal (by omega) Val.len (fun _ _ _ _ hd => open_valF hd) hsp h
  refine ⟨v, l, rfl, hrd, fun a ha => ?_⟩
  rcases hx with ⟨_, rfl⟩ | ⟨ds, sp, _, _, hG⟩
  · simp at ha
  · obtain ⟨i, hi⟩ := List.mem_iff_getElem?.1 ha
    exact (hG i a hi).choose_spec.2
end
end Go.Proofs.Ytjijemeabfiipaa
