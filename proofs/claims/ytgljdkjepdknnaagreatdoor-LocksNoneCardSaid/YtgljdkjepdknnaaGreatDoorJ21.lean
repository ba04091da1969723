/- Joined texts: The document's answer: are two predicates the same (ratlineref03.Same). (printed by genref3.py) The document's answer: two claims that are the same in all are told so (ratlineref02.Rows, ratlineref09.Equal). -/
import Derived.Test.YtgljdkjepdknnaaGreatDoorJ7
import Derived.Test.YtgljdkjepdknnaaGreatDoorJ11
import Derived.Test.YtgljdkjepdknnaaGreatDoorJ12
/- The document's answer: are two predicates the same (ratlineref03.Same). (printed by genref3.py) -/
namespace Go.Proofs.YtgljdkjepdknnaaGreatDoor
open Go.ChangeShapes Go.WideShapes Go.ChangeAt Go.RowKit
set_option maxRecDepth 100000
set_option linter.unusedSimpArgs false

set_option maxHeartbeats 8000000 in
theorem rpSame_ok : ∀ (p : PredT) (x y : PredE) (w : World), x.p = p → PredsRd w (.slice x.la x.ln x.lc) x.subs → PredsRd w (.slice y.la y.ln y.lc) y.subs →
    Calls Tryz.prog 63 #[.agg x.cells.toArray, .agg y.cells.toArray] w fun r w' => r = .returned (.bool (predEq x.p y.p)) ∧ Kept (fun _ => False) w w' := by
  refine PredT.ind fun op col v w0 l ih x y w hx h1 h2 => ?_
  have hl : x.subs = l := by unfold PredE.p at hx; cases hx; rfl
  obtain ⟨W1, hW1, hk1, hb1, hb2⟩ := alloc2p w x.cells.toArray y.cells.toArray tPr tPr
  obtain ⟨es, he, hsub, hes⟩ : ∃ es : List PredE, Rd W1 9 (.slice x.la x.ln x.lc) es.length (es.flatMap PredE.cells) ∧ x.subs = es.map PredE.p ∧ ∀ e ∈ es, PredsRd W1 (.slice e.la e.ln e.lc) e.subs := by
    have k1 := h1.kept hk1
    generalize x.subs = xs at k1
    cases k1 with
    | mk _ es he hes => exact ⟨es, he, rfl, hes⟩
  obtain ⟨fs, hf, hsubf, hfs⟩ : ∃ es : List PredE, Rd W1 9 (.slice y.la y.ln y.lc) es.length (es.flatMap PredE.cells) ∧ y.subs = es.map PredE.p ∧ ∀ e ∈ es, PredsRd W1 (.slice e.la e.ln e.lc) e.subs := by
    have k1 := h2.kept hk1
    generalize y.subs = xs at k1
    cases k1 with
    | mk _ es he hes => exact ⟨es, he, rfl, hes⟩
  have HIH := Lib.hid (show ∀ e ∈ es, ∀ f ∈ fs, ∀ W, Kept (fun _ => False) W1 W → Calls Tryz.prog 63 #[.agg e.cells.toArray, .agg f.cells.toArray] W fun r w' => r = .returned (.bool (predEq e.p f.p)) ∧ Kept (fun _ => False) W w' from
    fun e hee f hff W hW => ih e.p (by rw [← hl, hsub]; exact List.mem_map.2 ⟨e, hee, rfl⟩) e f W rfl ((hes e hee).kept hW) ((hfs f hff).kept hW))
  have HW1 := Lib.hid hW1
  have HK1 := Lib.hid hk1
  have HB1 := Lib.hid hb1
  have HB2 := Lib.hid hb2
  have HE := Lib.hid he
  have HF := Lib.hid hf
  obtain ⟨_, hml, _, _, hsl, _⟩ := id he
  obtain ⟨_, hml2, _, _, hsl2, _⟩ := id hf
  unfold maxLen at hml hml2
  have HLN := Lib.hid (Value.slice.inj hsl).2.1
  have HLM := Lib.hid (Value.slice.inj hsl2).2.1
  have HP := Lib.hid (show predEq x.p y.p = (decide (x.op = y.op) && decide (x.col = y.col) && decide (x.v = y.v) && decide (x.w = y.w) && predEqL x.subs y.subs) from predEq_mk ..)
  rw [hsub, hsubf] at HP
  clear h1 h2 hW1 hk1 hb1 hb2 hx hl ih he hf hes hfs hsub hsubf hsl hsl2
  cases d0 : decide (x.op = y.op)
  · have HR := Lib.hid (show predEq x.p y.p = false by rw [HP.out, d0]; simp)
    have q0 : (x.op == y.op) = false := by simpa using d0
    have r0 : (x.op != y.op) = true := by simpa using d0
    clear d0 HP HIH HE HF
    go_enter Tryz.func63, Tryz.ntmps63
    go_upto_region 1 with fail
    rw [← HW1.out]
    clear HW1
    generalize w.heap.size + 1 = b2 at HB2 ⊢
    generalize w.heap.size = b1 at HB1 ⊢
    obtain ⟨x0, x1, x2, x3, x4, x5, x6, x7, x8⟩ := boxPr HB1.out
    obtain ⟨y0, y1, y2, y3, y4, y5, y6, y7, y8⟩ := boxPr HB2.out
    go_wp2_with fail
    go_ret
    exact ⟨by rw [HR.out]; rfl, HK1.out⟩
  · have q0 : (x.op == y.op) = true := by simpa using d0
    have r0 : (x.op != y.op) = false := by simpa using d0
    cases d1 : decide (x.col = y.col)
    · have HR := Lib.hid (show predEq x.p y.p = false by rw [HP.out, d0, d1]; simp)
      have q1 : (x.col == y.col) = false := by simpa using d1
      have r1 : (x.col != y.col) = true := by simpa using d1
      clear d0 d1 HP HIH HE HF
      go_enter Tryz.func63, Tryz.ntmps63
      go_upto_region 1 with fail
      rw [← HW1.out]
      clear HW1
      generalize w.heap.size + 1 = b2 at HB2 ⊢
      generalize w.heap.size = b1 at HB1 ⊢
      obtain ⟨x0, x1, x2, x3, x4, x5, x6, x7, x8⟩ := boxPr HB1.out
      obtain ⟨y0, y1, y2, y3, y4, y5, y6, y7, y8⟩ := boxPr HB2.out
      go_wp2_with fail
      go_ret
      exact ⟨by rw [HR.out]; rfl, HK1.out⟩
    · have q1 : (x.col == y.col) = true := by simpa using d1
      have r1 : (x.col != y.col) = false := by simpa using d1
      cases d2 : decide (x.v = y.v)
      · have HR := Lib.hid (show predEq x.p y.p = false by rw [HP.out, d0, d1, d2]; simp)
        have q2 : valEqB x.v.t x.v.n x.v.s y.v.t y.v.n y.v.s = false := by rw [valEqB_val]; exact d2
        clear d0 d1 d2 HP HIH HE HF
        go_enter Tryz.func63, Tryz.ntmps63
        go_upto_region 1 with fail
        rw [← HW1.out]
        clear HW1
        generalize w.heap.size + 1 = b2 at HB2 ⊢
        generalize w.heap.size = b1 at HB1 ⊢
        obtain ⟨x0, x1, x2, x3, x4, x5, x6, x7, x8⟩ := boxPr HB1.out
        obtain ⟨y0, y1, y2, y3, y4, y5, y6, y7, y8⟩ := boxPr HB2.out
        go_wp2_with fail
        go_ret
        exact ⟨by rw [HR.out]; rfl, HK1.out⟩
      · have q2 : valEqB x.v.t x.v.n x.v.s y.v.t y.v.n y.v.s = true := by rw [valEqB_val]; exact d2
        cases d3 : decide (x.w = y.w)
        · have HR := Lib.hid (show predEq x.p y.p = false by rw [HP.out, d0, d1, d2, d3]; simp)
          have q3 : valEqB x.w.t x.w.n x.w.s y.w.t y.w.n y.w.s = false := by rw [valEqB_val]; exact d3
          clear d0 d1 d2 d3 HP HIH HE HF
          go_enter Tryz.func63, Tryz.ntmps63
          go_upto_region 1 with fail
          rw [← HW1.out]
          clear HW1
          generalize w.heap.size + 1 = b2 at HB2 ⊢
          generalize w.heap.size = b1 at HB1 ⊢
          obtain ⟨x0, x1, x2, x3, x4, x5, x6, x7, x8⟩ := boxPr HB1.out
          obtain ⟨y0, y1, y2, y3, y4, y5, y6, y7, y8⟩ := boxPr HB2.out
          go_wp2_with fail
          go_ret
          exact ⟨by rw [HR.out]; rfl, HK1.out⟩
        · have q3 : valEqB x.w.t x.w.n x.w.s y.w.t y.w.n y.w.s = true := by rw [valEqB_val]; exact d3
          have HR0 := Lib.hid (show predEq x.p y.p = predEqL (es.map PredE.p) (fs.map PredE.p) by rw [HP.out, d0, d1, d2, d3]; simp)
          clear d0 d1 d2 d3 HP
          by_cases hlen : es.length = fs.length
          · have HLEN := Lib.hid hlen.symm
            obtain ⟨N, hN⟩ : ∃ N, es.length = N := ⟨_, rfl⟩
            have HN := Lib.hid hN
            rw [hN] at HLEN HLN HE hml
            rw [HLEN.out] at HLM HF
            clear hlen hN hml2
            go_enter Tryz.func63, Tryz.ntmps63
            go_upto_region 1 with fail
            rw [← HW1.out]
            clear HW1
            generalize w.heap.size + 1 = b2 at HB2 ⊢
            generalize w.heap.size = b1 at HB1 ⊢
            obtain ⟨x0, x1, x2, x3, x4, x5, x6, x7, x8⟩ := boxPr HB1.out
            obtain ⟨y0, y1, y2, y3, y4, y5, y6, y7, y8⟩ := boxPr HB2.out
            rw [HLN.out] at x8
            rw [HLM.out] at y8
            go_wp2_with fail
            go_loopw [5] (fun i wr => ∃ j : Nat, i = .int .i64 j ∧ j ≤ N ∧ (es.map PredE.p).take j = (fs.map PredE.p).take j ∧ Kept (fun _ => False) W1 wr) (fun i _ => N - (intOf i).toNat)
            case atStart => exact ⟨0, rfl, by omega, rfl, Kept.refl _ _⟩
            case round =>
              obtain ⟨j, rfl, hj, ht, hk⟩ := hrel
              have HT := Lib.hid ht
              have HK := Lib.hid hk
              clear ht hk x0 x1 x2 x3 x4 x5 x6 x7 x8 y0 y1 y2 y3 y4 y5 y6 y7 y8
              have x8 := (boxPr (kept_blk HK.out HB1.out)).2.2.2.2.2.2.2.2
              have y8 := (boxPr (kept_blk HK.out HB2.out)).2.2.2.2.2.2.2.2
              rw [HLN.out] at x8
              rw [HLM.out] at y8
              by_cases hlt : j < N
              · have hji : (j : Int) < (N : Int) := by omega
                obtain ⟨e, he⟩ : ∃ e, es[j]? = some e := ⟨es[j]'(by rw [HN.out]; exact hlt), List.getElem?_eq_getElem _⟩
                obtain ⟨f, hf⟩ : ∃ f, fs[j]? = some f := ⟨fs[j]'(by rw [HLEN.out]; exact hlt), List.getElem?_eq_getElem _⟩
                obtain ⟨g1, o1, hg1, hr1⟩ := elem_range PredE.len (by have := HE.out.kept HK.out (fun _ _ h => h); rw [HLN.out] at this; exact this) he HN.out
                obtain ⟨g2, o2, hg2, hr2⟩ := elem_range PredE.len (by have := HF.out.kept HK.out (fun _ _ h => h); rw [HLM.out] at this; exact this) hf HLEN.out
                rw [hg1] at x8
                rw [hg2] at y8
                have HL1 := Lib.hid (loadPr (w := wr.drew) hr1)
                have HL2 := Lib.hid (loadPr (w := wr.drew) hr2)
                have HXE := Lib.hid (show (es.map PredE.p)[j]? = some e.p by rw [List.getElem?_map, he]; rfl)
                have HXF := Lib.hid (show (fs.map PredE.p)[j]? = some f.p by rw [List.getElem?_map, hf]; rfl)
                have HC := Lib.hid (HIH.out e (List.mem_of_getElem? he) f (List.mem_of_getElem? hf) wr.drew HK.out.drew)
                clear he hf hg1 hg2 hr1 hr2
                cases hp : predEq e.p f.p
                · rw [hp] at HC
                  have HR := Lib.hid (show predEqL (es.map PredE.p) (fs.map PredE.p) = false by
                    rw [Bool.eq_false_iff]
                    intro h
                    have h3 := predEqL_iff.1 h
                    have h4 := HXE.out
                    rw [h3, HXF.out] at h4
                    rw [Option.some.inj h4, predEq_self] at hp
                    cases hp)
                  clear hp
                  go_upto_region 6 with fail
                  refine wp_region_canon [(0, false, 10), (1, false, 10), (2, false, 10), (3, false, 10), (4, false, 10), (5, false, 10), (6, false, 10), (7, false, 10), (8, false, 10), (9, false, 10), (10, true, 0), (11, false, 999)] (by kernel_rfl) (by kernel_rfl) ?_
                  iterate 10 (refine wpCan_read rfl rfl (fun K hK => ?_); (first | ((refine still_ld _ _ rfl _ _ rfl _ HL1.out ?_); go_simp) | ((refine still_ld _ _ rfl _ _ rfl _ HL2.out ?_); go_simp) | go_simp); refine hK _ ?_; clear hK K)
                  refine wpCan_eff rfl ?_
                  refine wpList_do rfl (fun K hK => ?_)
                  go_simp
                  refine HC.out.mono ?_
                  rintro r3 w3 ⟨rfl, hk3⟩
                  have HK3 := Lib.hid (HK.out.drew.trans hk3 (fun _ h => h.elim))
                  clear hk3 HC HL1 HL2 x8 y8
                  refine hK _ _ ?_
                  clear hK K
                  refine wpList_nil ?_
                  refine And.intro ?_ ?_
                  · go_simp
                  iterate 1 (refine wpCan_read rfl rfl (fun K hK => ?_); (first | ((refine still_ld _ _ rfl _ _ rfl _ HL1.out ?_); go_simp) | ((refine still_ld _ _ rfl _ _ rfl _ HL2.out ?_); go_simp) | go_simp); refine hK _ ?_; clear hK K)
                  refine wpCan_nil ?_
                  go_wp2_with fail
                  go_ret
                  exact ⟨by rw [HR0.out, HR.out]; rfl, HK1.out.trans HK3.out (fun _ h => h.elim)⟩
                · rw [hp] at HC
                  have HPE := Lib.hid (predEq_iff.1 hp)
                  clear hp
                  go_upto_region 6 with fail
                  refine wp_region_canon [(0, false, 10), (1, false, 10), (2, false, 10), (3, false, 10), (4, false, 10), (5, false, 10), (6, false, 10), (7, false, 10), (8, false, 10), (9, false, 10), (10, true, 0), (11, false, 999)] (by kernel_rfl) (by kernel_rfl) ?_
                  iterate 10 (refine wpCan_read rfl rfl (fun K hK => ?_); (first | ((refine still_ld _ _ rfl _ _ rfl _ HL1.out ?_); go_simp) | ((refine still_ld _ _ rfl _ _ rfl _ HL2.out ?_); go_simp) | go_simp); refine hK _ ?_; clear hK K)
                  refine wpCan_eff rfl ?_
                  refine wpList_do rfl (fun K hK => ?_)
                  go_simp
                  refine HC.out.mono ?_
                  rintro r3 w3 ⟨rfl, hk3⟩
                  have HK3 := Lib.hid (HK.out.drew.trans hk3 (fun _ h => h.elim))
                  clear hk3 HC HL1 HL2 x8 y8
                  refine hK _ _ ?_
                  clear hK K
                  refine wpList_nil ?_
                  refine And.intro ?_ ?_
                  · go_simp
                  iterate 1 (refine wpCan_read rfl rfl (fun K hK => ?_); (first | ((refine still_ld _ _ rfl _ _ rfl _ HL1.out ?_); go_simp) | ((refine still_ld _ _ rfl _ _ rfl _ HL2.out ?_); go_simp) | go_simp); refine hK _ ?_; clear hK K)
                  refine wpCan_nil ?_
                  go_wp2_with fail
                  go_roundw
                  case rel => exact ⟨j + 1, by go_num, by omega, take_succ_eq HT.out HXE.out (by rw [HXF.out, HPE.out]), HK3.out⟩
                  case measure => simp [intOf]; omega
              · have hji : ¬ ((j : Int) < (N : Int)) := by omega
                have HR := Lib.hid (show predEqL (es.map PredE.p) (fs.map PredE.p) = true from predEqL_iff.2 (take_all_eq HT.out (by rw [List.length_map, HN.out]; omega) (by rw [List.length_map, HLEN.out]; omega)))
                go_wp2_with fail
                go_ret
                exact ⟨by rw [HR0.out, HR.out]; rfl, HK1.out.trans HK.out (fun _ h => h.elim)⟩
          · have hbe2 : ((es.length : Int) != (fs.length : Int)) = true := by simp; omega
            have hbe : ((es.length : Int) == (fs.length : Int)) = false := by simp; omega
            have HR := Lib.hid (show predEq x.p y.p = false by
              rw [HR0.out, Bool.eq_false_iff]
              intro h
              have := congrArg List.length (predEqL_iff.1 h)
              simp at this
              exact hlen this)
            clear hlen HIH HE HF
            go_enter Tryz.func63, Tryz.ntmps63
            go_upto_region 1 with fail
            rw [← HW1.out]
            clear HW1
            generalize w.heap.size + 1 = b2 at HB2 ⊢
            generalize w.heap.size = b1 at HB1 ⊢
            obtain ⟨x0, x1, x2, x3, x4, x5, x6, x7, x8⟩ := boxPr HB1.out
            obtain ⟨y0, y1, y2, y3, y4, y5, y6, y7, y8⟩ := boxPr HB2.out
            rw [HLN.out] at x8
            rw [HLM.out] at y8
            go_wp2_with fail
            go_ret
            exact ⟨by rw [HR.out]; rfl, HK1.out⟩
end Go.Proofs.YtgljdkjepdknnaaGreatDoor

/- The document's answer: two claims that are the same in all are told so (ratlineref02.Rows, ratlineref09.Equal). -/
namespace Go.Proofs.YtgljdkjepdknnaaGreatDoor
open Go.ChangeShapes Go.WideShapes Go.ChangeAt Go.RowKit
set_option maxRecDepth 100000
set_option linter.unusedSimpArgs false

set_option maxHeartbeats 4000000 in
theorem rRows_eq {w : World} {v1 v2 : Value} {rs : List (List Val)} (h1 : RowsRd w v1 rs) (h2 : RowsRd w v2 rs) :
    Calls Tryz.prog 68 #[v1, v2] w fun e w' => e = .returned (.bool true) ∧ Kept (fun _ => False) w w' := by
  obtain ⟨a1, c1, rfl, n1, m1, _⟩ := h1.shape
  obtain ⟨a2, c2, rfl, n2, m2, _⟩ := h2.shape
  have H1 := Lib.hid h1
  have H2 := Lib.hid h2
  clear h1 h2
  obtain ⟨N, hN⟩ : ∃ N, rs.length = N := ⟨_, rfl⟩
  have HN := Lib.hid hN
  rw [hN] at H1 H2 n1 n2 m1 m2 ⊢
  clear hN
  go_enter Tryz.func68, Tryz.ntmps68
  go_wp2_with fail
  go_loopw [5] (fun i wr => ∃ j : Nat, i = .int .i64 j ∧ j ≤ N ∧ Kept (fun _ => False) w wr) (fun i _ => N - (intOf i).toNat)
  case atStart => exact ⟨0, rfl, by omega, Kept.refl _ _⟩
  case round =>
    obtain ⟨j, rfl, hj, hk⟩ := hrel
    have HK := Lib.hid hk
    clear hk
    by_cases hlt : j < N
    · have hji : (j : Int) < (N : Int) := by omega
      obtain ⟨r, hr⟩ : ∃ r, rs[j]? = some r := ⟨rs[j]'(by rw [HN.out]; exact hlt), List.getElem?_eq_getElem _⟩
      obtain ⟨g1, o1, ra1, rc1, hg1, y1, hrow1, hl1, hrc1⟩ := rowAtR (H1.out.kept HK.out) hr
      obtain ⟨g2, o2, ra2, rc2, hg2, y2, hrow2, hl2, hrc2⟩ := rowAtR (H2.out.kept HK.out) hr
      subst hg1
      subst hg2
      have HC := Lib.hid (rsame_ok (w := wr.drew) (show RowRd wr.drew _ r from hrow1) (show RowRd wr.drew _ r from hrow2))
      have HD := Lib.hid (show decide (r = r) = true by simp)
      rw [HD.out] at HC
      clear hr hrow1 hrow2 HD
      generalize r.length = rl at *
      go_upto_region 6 with fail
      refine wp_region_canon [(0, false, 8), (1, false, 8), (2, false, 8), (3, false, 8), (4, false, 8), (5, false, 8), (6, false, 8), (7, false, 8), (8, true, 0), (9, false, 999)] (by kernel_rfl) (by kernel_rfl) ?_
      iterate 8 (refine wpCan_read rfl rfl (fun K hK => ?_); go_simp; refine hK _ ?_; clear hK K)
      refine wpCan_eff rfl ?_
      refine wpList_do rfl (fun K hK => ?_)
      go_simp
      refine HC.out.mono ?_
      rintro e3 w3 ⟨rfl, n3, rfl⟩
      have HK3 := Lib.hid ((HK.out.drew).drewN n3)
      clear HC y1 y2
      generalize wr.drew.drewN n3 = w3 at HK3 ⊢
      refine hK _ _ ?_
      clear hK K
      refine wpList_nil ?_
      refine And.intro ?_ ?_
      · go_simp
      iterate 1 (refine wpCan_read rfl rfl (fun K hK => ?_); go_simp; refine hK _ ?_; clear hK K)
      refine wpCan_nil ?_
      go_wp2_with fail
      go_roundw
      case rel => exact ⟨j + 1, by go_num, by omega, HK3.out⟩
      case measure => simp [intOf]; omega
    · have hji : ¬ ((j : Int) < (N : Int)) := by omega
      go_wp2_with fail
      go_ret
      exact ⟨rfl, HK.out⟩
set_option maxHeartbeats 4000000 in
theorem rEqual_eq {w : World} {x y : ClmE} (hx : RdCl w x) (hy : RdCl w y) (h : x.c = y.c) :
    Calls Tryz.prog 33 #[.agg x.cells.toArray, .agg y.cells.toArray] w fun e w' => e = .returned (.bool true) ∧ Kept (fun _ => False) w w' := by
  obtain ⟨W1, hW1, hk1, hb1, hb2⟩ := alloc2p w x.cells.toArray y.cells.toArray tCl tCl
  have e1 : x.kind = y.kind := congrArg Clm.kind h
  have e2 : x.table = y.table := congrArg Clm.table h
  have e3 : x.mode = y.mode := congrArg Clm.mode h
  have e4 : x.key = y.key := congrArg Clm.key h
  have e5 : x.imgs = y.imgs := congrArg Clm.imgs h
  have e6 : x.pr.p = y.pr.p := congrArg Clm.pred h
  have HS := Lib.hid (rpSame_ok x.pr.p x.pr y.pr W1 rfl (hx.2.kept hk1) (hy.2.kept hk1))
  rw [show predEq x.pr.p y.pr.p = true by rw [e6]; exact predEq_self _] at HS
  have HXR := Lib.hid (hx.1.kept hk1)
  have HYR := Lib.hid (show RowsRd W1 (.slice y.ia y.il y.ic) x.imgs by rw [e5]; exact hy.1.kept hk1)
  have HLX := Lib.hid (loadPr (boxClP hb1))
  have HLY := Lib.hid (loadPr (boxClP hb2))
  have HW1 := Lib.hid hW1
  have HK1 := Lib.hid hk1
  have HB1 := Lib.hid hb1
  have HB2 := Lib.hid hb2
  have q0 : (x.kind == y.kind) = true := by simpa using e1
  have q1 : (x.table == y.table) = true := by simpa using e2
  have q2 : (x.mode == y.mode) = true := by simpa using e3
  have q3 : valEqB x.key.t x.key.n x.key.s y.key.t y.key.n y.key.s = true := by rw [valEqB_val]; simpa using e4
  clear hW1 hk1 hb1 hb2 hx hy h e1 e2 e3 e4 e5 e6
  go_enter Tryz.func33, Tryz.ntmps33
  go_upto_region 1 with fail
  rw [← HW1.out]
  clear HW1
  generalize w.heap.size + 1 = b2 at *
  generalize w.heap.size = b1 at *
  go_upto_region 2 with (first | (refine wpList_ld rfl _ _ rfl _ _ rfl _ HLX.out ?_) | (refine wpList_ld rfl _ _ rfl _ _ rfl _ HLY.out ?_) | (go_at_call 63; refine HS.out.mono ?_; rintro r3 w3 ⟨rfl, hk3⟩; have HK3 := Lib.hid hk3; clear hk3 HS HLX HLY))
  have HRW := Lib.hid (rRows_eq (HXR.out.kept HK3.out) (HYR.out.kept HK3.out))
  have x6 := (boxClm2 (kept_blk HK3.out HB1.out)).2
  have y6 := (boxClm2 (kept_blk HK3.out HB2.out)).2
  go_upto_region 3 with (go_at_call 68; refine HRW.out.mono ?_; rintro r4 w4 ⟨rfl, hk4⟩; have HK4 := Lib.hid (HK3.out.trans hk4 (fun _ h => h.elim)); clear hk4 HRW x6 y6)
  obtain ⟨x0, x1, x3, x4, x5⟩ := boxClm (kept_blk HK4.out HB1.out)
  obtain ⟨y0, y1, y3, y4, y5⟩ := boxClm (kept_blk HK4.out HB2.out)
  have x2 := (boxClm2 (kept_blk HK4.out HB1.out)).1
  have y2 := (boxClm2 (kept_blk HK4.out HB2.out)).1
  go_wp2_with fail
  go_ret
  exact ⟨rfl, HK1.out.trans HK4.out (fun _ h => h.elim)⟩
end Go.Proofs.YtgljdkjepdknnaaGreatDoor
