/- The reference of the undo log: contracts of All, Same. -/
import Derived.Test.YtokcpmeoiblpfaaRef07d
namespace Go.Proofs.Ytokcpmeoiblpfaa
open Go.ChangeShapes Go.WideShapes Go.ChangeAt Go.RowKit
set_option maxRecDepth 100000
set_option linter.unusedSimpArgs false

def TellsAll (B : World) (D : PH) (l : List HP) (room : Int) (m : LogM) (ps : List EA) (cs : Array Value) (v : Value) (w' : World) : Prop :=
  ∃ D', PH.le D D' ∧ (∃ lv sv mv, cs = #[.int .i64 room, lv, sv, mv] ∧ RefAt D' lv sv mv m []) ∧ EntsP D' v ps.reverse ∧ Sat B D' w' l

set_option maxHeartbeats 2000000 in
theorem allR_ok {B w : World} {D : PH} {l : List HP} {lv sv mv : Value} {m : LogM} {ps : List EA} (h60 : ps.length ≤ 60) (h : RefAt D lv sv mv m ps) (hs : Sat B D w l) :
    Calls Try.prog 25 #[.agg #[.int .i64 m.room, lv, sv, mv]] w fun e w' => ∃ cs v, e = .returned (.tuple #[.agg cs, v]) ∧ TellsAll B D l (clampI m.room) (newM m.room) ps cs v w' := by
  obtain ⟨es, h1, h2, h3, h4⟩ := h
  have hlen := h2.1
  rw [← hlen] at h60
  obtain ⟨lo, lc, rfl⟩ := h1.shape
  obtain ⟨so, sc, rfl⟩ := h3.shape
  obtain ⟨mo, mc, rfl⟩ := h4.shape
  have h0 := (hs.alloc #[.int .i64 m.room, .slice lo es.length lc, .slice so 4 sc, .slice mo m.met.length mc] tRef).alloc #[.int .i64 0, .slice none 0 0, .slice none 0 0, .slice none 0 0] tRef
  simp only [World.size_alloc] at h0
  have HL := Lib.hid h1
  have HE := Lib.hid h2
  have HS := Lib.hid h0
  have HONE := Lib.hid h2.one
  clear h1 h2 h3 h4 hs h0 hlen
  go_enter Try.func25, Try.ntmps25
  go_upto_region 1 with (fail)
  obtain ⟨W, hW, hsW⟩ := HS.out.hide
  rw [← hW]
  clear HS hW
  generalize w.heap.size + 1 = b1 at hsW ⊢
  generalize w.heap.size = b0 at hsW ⊢
  obtain ⟨c0, c1, c2, c3, cf⟩ := cells4 (hsW.blk 1 rfl)
  have HW := Lib.hid hsW.drew
  clear hsW
  refine wp_region_canon [(0, false, 2), (1, false, 2), (3, false, 5), (4, false, 5), (2, true, 0), (5, true, 0), (6, true, 0), (7, false, 999)] (by kernel_rfl) (by kernel_rfl) ?_
  iterate 4 (refine wpCan_read rfl rfl (fun K hK => ?_); go_simp; refine hK _ ?_; clear hK K)
  refine wpCan_eff rfl ?_
  refine wpList_do rfl (fun K hK => ?_)
  go_simp
  refine (newR_ok m.room HW.out).mono ?_
  rintro e2 w2 ⟨cs2, rfl, nl, ns, nm, D2, rfl, g2, r2, hs2⟩
  obtain ⟨_, _, _, _, _, _, rfl, rfl, rfl⟩ := r2.shapes
  clear c0 c1 c2 c3 cf HW
  obtain ⟨c0, c1, c2, c3, cf⟩ := cells4 (hs2.blk 1 rfl)
  have HG2 := Lib.hid g2
  have HR2 := Lib.hid r2
  have HS2 := Lib.hid hs2
  clear g2 r2 hs2
  refine hK _ _ ?_
  clear hK K
  refine wpList_nil ?_
  refine And.intro ?_ ?_
  · go_simp
  refine wpCan_eff rfl ?_
  refine wpList_do rfl (fun K hK => ?_)
  go_simp
  refine (turned_ok 0 (by omega) (by omega) (HL.out.mono HG2.out) HONE.out HS2.out).mono ?_
  rintro e3 w3 ⟨tv, rfl, D3, g3, r3, hs3⟩
  clear c0 c1 c2 c3 cf HS2
  obtain ⟨c0, c1, c2, c3, cf⟩ := cells4 (hs3.blk 1 rfl)
  obtain ⟨z0, z1, z2, z3, zf⟩ := cells4 (hs3.blk 0 rfl)
  have HG3 := Lib.hid g3
  have HR3 := Lib.hid r3
  have HS3 := Lib.hid hs3
  clear g3 r3 hs3
  refine hK _ _ ?_
  clear hK K
  refine wpList_nil ?_
  refine And.intro ?_ ?_
  · go_simp
  refine wpCan_eff rfl ?_
  refine wpList_plain rfl (fun K hK => ?_)
  go_simp
  refine hK _ _ ?_
  clear hK K
  refine wpList_nil ?_
  refine And.intro ?_ ?_
  · go_simp
  iterate 1 (refine wpCan_read rfl rfl (fun K hK => ?_); go_simp; refine hK _ ?_; clear hK K)
  refine wpCan_nil ?_
  go_wp2_with fail
  refine bodyPost_ret (v := .tuple #[.agg #[.int .i64 (clampI m.room), _, _, _], tv]) (by simp [results, Try.results25, go_sem, z0, z1, z2, z3, zf]) rfl ⟨_, _, rfl, D3, HG2.out.trans HG3.out, ⟨_, _, _, rfl, HR2.out.mono HG3.out⟩, ⟨es.reverse, ?_, (HE.out.mono (HG2.out.trans HG3.out)).reverse⟩, ?_⟩
  · have := HR3.out
    rw [List.length_reverse]
    simpa using this
  · exact (HS3.out.set4 _ _ _ _).drop.drop

/-! ### Same -/
theorem EntA.row {D : PH} {B w : World} {l : List HP} {e : Ent} {a : EA} (h : EntA D e a) (hwf : ∀ x ∈ a.2, x.wf) (hs : Sat B D w l) : RowRd w e.was a.2 := ⟨h.2.2.rd hs, hwf⟩

set_option maxHeartbeats 4000000 in
theorem sameE_ok {B w : World} {D : PH} {l : List HP} {v1 v2 : Value} {p1 p2 : List EA} (h1 : EntsP D v1 p1) (h2 : EntsP D v2 p2) (hw1 : ∀ a ∈ p1, ∀ x ∈ a.2, x.wf) (hw2 : ∀ a ∈ p2, ∀ x ∈ a.2, x.wf) (hs : Sat B D w l) :
    Calls Try.prog 18 #[v1, v2] w fun e w' => e = .returned (.bool (decide (p1 = p2))) ∧ Sat B D w' l := by
  obtain ⟨e1, r1, q1⟩ := h1
  obtain ⟨e2, r2, q2⟩ := h2
  obtain ⟨a1, c1, rfl⟩ := r1.shape
  obtain ⟨a2, c2, rfl⟩ := r2.shape
  have HR1 := Lib.hid r1
  have HR2 := Lib.hid r2
  have m1 := r1.len
  have m2 := r2.len
  have HQ1 := Lib.hid q1
  have HQ2 := Lib.hid q2
  have HW1 := Lib.hid hw1
  have HW2 := Lib.hid hw2
  have HS := Lib.hid hs
  have l1 := q1.1
  have l2 := q2.1
  clear r1 r2 q1 q2 hw1 hw2 hs
  by_cases hlen : e1.length = e2.length
  · have hlp : p1.length = p2.length := by omega
    rw [← hlen] at HR2 m2
    have b1 : e1.length ≤ p1.length := by omega
    have b2 : p1.length ≤ e1.length := by omega
    have b3 : e1.length ≤ p2.length := by omega
    have b4 : p2.length ≤ e1.length := by omega
    have b5 : e1.length ≤ e2.length := by omega
    have b6 : e2.length ≤ e1.length := by omega
    clear hlp l1 l2
    generalize hL : e1.length = L at *
    have b7 : L ≤ e1.length := by omega
    have b8 : e1.length ≤ L := by omega
    have HLL := Lib.hid hL
    have hc2 : Value.slice a2 e2.length c2 = .slice a2 L c2 := by rw [← hlen]
    have hbe : ((L : Int) == (L : Int)) = true := by simp
    rw [hc2]
    clear hL hlen hc2
    go_enter Try.func18, Try.ntmps18
    go_wp2_with fail
    go_loopw [5] (fun i wr => ∃ k : Nat, i = .int .i64 k ∧ k ≤ L ∧ p1.take k = p2.take k ∧ Sat B D wr l) (fun i _ => L - (intOf i).toNat)
    case atStart => exact ⟨0, rfl, by omega, rfl, HS.out⟩
    case round =>
      obtain ⟨k, rfl, hk, ht, hsat⟩ := hrel
      have HSAT := Lib.hid hsat
      clear hsat
      have HT := Lib.hid ht
      clear ht
      by_cases hlt : k < L
      · obtain ⟨x, hx⟩ : ∃ x, e1[k]? = some x := ⟨e1[k]'(by omega), List.getElem?_eq_getElem (by omega)⟩
        obtain ⟨y, hy⟩ : ∃ y, e2[k]? = some y := ⟨e2[k]'(by omega), List.getElem?_eq_getElem (by omega)⟩
        obtain ⟨px, hpx⟩ : ∃ x, p1[k]? = some x := ⟨p1[k]'(by omega), List.getElem?_eq_getElem (by omega)⟩
        obtain ⟨py, hpy⟩ : ∃ y, p2[k]? = some y := ⟨p2[k]'(by omega), List.getElem?_eq_getElem (by omega)⟩
        have hcx := HQ1.out.2 k x px hx hpx
        have hcy := HQ2.out.2 k y py hy hpy
        obtain ⟨xt, xk, xw⟩ := x
        obtain ⟨yt, yk, yw⟩ := y
        obtain ⟨⟨pxt, pxk⟩, pxl⟩ := px
        obtain ⟨⟨pyt, pyk⟩, pyl⟩ := py
        have ex1 := hcx.1
        have ex2 := hcx.2.1
        have ey1 := hcy.1
        have ey2 := hcy.2.1
        dsimp only at ex1 ex2 ey1 ey2
        subst ex1 ex2 ey1 ey2
        rcases (HR1.out.rd HSAT.out).2.2 with ⟨_, _, hv, _, _, _, h0 | ⟨b1, o1, rfl, hc1⟩⟩
        · omega
        cases hv
        rcases (HR2.out.rd HSAT.out).2.2 with ⟨_, _, hv, _, _, _, h0 | ⟨b2, o2, rfl, hc2⟩⟩
        · omega
        cases hv
        have x0 := hc1 _ _ (flat_get Ent.len e1 k _ hx 0 _ rfl)
        have x1 := hc1 _ _ (flat_get Ent.len e1 k _ hx 1 _ rfl)
        have x2 := hc1 _ _ (flat_get Ent.len e1 k _ hx 2 _ rfl)
        have x3 := hc1 _ _ (flat_get Ent.len e1 k _ hx 3 _ rfl)
        have x4 := hc1 _ _ (flat_get Ent.len e1 k _ hx 4 _ rfl)
        have y0 := hc2 _ _ (flat_get Ent.len e2 k _ hy 0 _ rfl)
        have y1 := hc2 _ _ (flat_get Ent.len e2 k _ hy 1 _ rfl)
        have y2 := hc2 _ _ (flat_get Ent.len e2 k _ hy 2 _ rfl)
        have y3 := hc2 _ _ (flat_get Ent.len e2 k _ hy 3 _ rfl)
        have y4 := hc2 _ _ (flat_get Ent.len e2 k _ hy 4 _ rfl)
        rw [Nat.add_zero] at x0 y0
        rw [← Nat.add_assoc] at x1 x2 x3 x4 y1 y2 y3 y4
        have HPX := Lib.hid hpx
        have HPY := Lib.hid hpy
        have HSAME := Lib.hid (same_ok (hcx.row (HW1.out _ (List.mem_of_getElem? hpx)) HSAT.out.drew) (hcy.row (HW2.out _ (List.mem_of_getElem? hpy)) HSAT.out.drew))
        dsimp only at HSAME
        clear hx hy hpx hpy hcx hcy hc1 hc2
        go_wp2_with fail
        have X0 := Lib.hid x0
        have X1 := Lib.hid x1
        have X2 := Lib.hid x2
        have X3 := Lib.hid x3
        have Y0 := Lib.hid y0
        have Y1 := Lib.hid y1
        have Y2 := Lib.hid y2
        have Y3 := Lib.hid y3
        clear x0 x1 x2 x3 y0 y1 y2 y3
        refine wp_region_canon [(0, false, 10), (1, false, 10), (2, false, 10), (3, false, 10), (4, false, 10), (5, false, 10), (6, false, 10), (7, false, 10), (8, false, 10), (9, false, 10), (10, true, 0), (11, false, 999)] (by kernel_rfl) (by kernel_rfl) ?_
        iterate 10 (refine wpCan_read rfl rfl (fun K hK => ?_); go_simp; refine hK _ ?_; clear hK K)
        refine wpCan_eff rfl ?_
        refine wpList_do rfl (fun K hK => ?_)
        go_simp
        refine HSAME.out.mono ?_
        rintro e3 w3 ⟨rfl, n3, rfl⟩
        have HS3 := Lib.hid (HSAT.out.drew.drewN n3)
        refine hK _ _ ?_
        clear hK K
        refine wpList_nil ?_
        refine And.intro ?_ ?_
        · go_simp
        iterate 1 (refine wpCan_read rfl rfl (fun K hK => ?_); go_simp; refine hK _ ?_; clear hK K)
        refine wpCan_nil ?_
        have x0 := X0.out
        have x1 := X1.out
        have x2 := X2.out
        have x3 := X3.out
        have y0 := Y0.out
        have y1 := Y1.out
        have y2 := Y2.out
        have y3 := Y3.out
        clear X0 X1 X2 X3 Y0 Y1 Y2 Y3 x4 y4
        have hne : (⟨⟨xt, xk⟩, pxl⟩ : EA) ≠ ⟨⟨yt, yk⟩, pyl⟩ → decide (p1 = p2) = false := fun h => decide_eq_false (fun e => by
          have h1 := HPX.out
          rw [e, HPY.out] at h1
          exact h (Option.some.inj h1).symm)
        by_cases hl : pxl = pyl
        · simp only [hl, decide_true]
          by_cases ht : xt = yt
          · by_cases hkk : xk = yk
            · subst hl ht hkk
              clear hne
              go_wp2_with fail
              go_quiet (fail)
              go_wp2_with fail
              go_roundw
              case rel => exact ⟨k + 1, by go_num, by omega, take_succ_eq HT.out HPX.out HPY.out, HSAT.out.drewN _⟩
              case measure => simp [intOf]; omega
            · have HNE := Lib.hid (hne (by simp [hkk]))
              have hv : valEqB xk.t xk.n xk.s yk.t yk.n yk.s = false := by rw [valEqB_val]; exact decide_eq_false hkk
              subst ht
              clear hne
              go_wp2_with fail
              go_quiet (fail)
              go_wp2_with fail
              go_ret
              exact ⟨by rw [HNE.out]; rfl, HS3.out.drewN _⟩
          · have HNE := Lib.hid (hne (by simp [ht]))
            have hv : ((xt : Int) != yt) = true := by simpa using ht
            clear hne
            go_wp2_with fail
            go_quiet (fail)
            go_wp2_with fail
            go_ret
            exact ⟨by rw [HNE.out]; rfl, HS3.out.drewN _⟩
        · have HNE := Lib.hid (hne (by simp [hl]))
          simp only [hl, decide_false]
          clear hne
          go_wp2_with fail
          go_quiet (fail)
          go_wp2_with fail
          go_ret
          exact ⟨by rw [HNE.out]; rfl, HS3.out.drewN _⟩
      · have heq : decide (p1 = p2) = true := decide_eq_true (take_all_eq HT.out (by omega) (by omega))
        have HEQ := Lib.hid heq
        clear heq
        go_wp2_with fail
        go_ret
        exact ⟨by rw [HEQ.out]; rfl, HSAT.out⟩
  · have hne : decide (p1 = p2) = false := decide_eq_false (fun e => hlen (by rw [l1, l2, e]))
    have hbe : ((e1.length : Int) == (e2.length : Int)) = false := by simp; omega
    have HNE := Lib.hid hne
    clear hne
    go_enter Try.func18, Try.ntmps18
    go_wp2_with fail
    go_ret
    exact ⟨by rw [HNE.out]; rfl, HS.out⟩
end Go.Proofs.Ytokcpmeoiblpfaa
