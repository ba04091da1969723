/- The reference of the undo log: contracts of Back and All. -/
import Derived.Test.YtokcpmeoiblpfaaRef07c
import Derived.Test.YtokcpmeoiblpfaaUndo10
namespace Go.Proofs.Ytokcpmeoiblpfaa
open Go.ChangeShapes Go.WideShapes Go.ChangeAt Go.RowKit
set_option maxRecDepth 100000
set_option linter.unusedSimpArgs false

theorem svI_back (m : LogM) (at_ : Nat) : (svI m).map (fun x => if (at_ : Int) < x then -1 else x) = svI (m.back (at_ + 1)) := by
  have f : ∀ s : Int, (if (at_ : Int) < s - 1 then -1 else s - 1) = gone (at_ + 1) s - 1 := fun s => by unfold gone; split <;> split <;> omega
  simp [svI, LogM.back, LogM.goneTo, f]

/-- a row of entries that is told -/
def EntsP (D : PH) (v : Value) (ps : List EA) : Prop := ∃ es, RdP D 5 v es.length (es.flatMap Ent.cells) ∧ EntsA D es ps
def TellsBack (B : World) (D : PH) (l : List HP) (m : LogM) (at_ : Nat) (ps : List EA) (cs : Array Value) (v : Value) (w' : World) : Prop :=
  ∃ D', PH.le D D' ∧ (∃ lv sv mv, cs = #[.int .i64 m.room, lv, sv, mv] ∧ RefAt D' lv sv mv (m.back (at_ + 1)) (ps.take at_)) ∧ EntsP D' v (ps.drop at_).reverse ∧ Sat B D' w' l

set_option maxHeartbeats 1000000 in
theorem backR_no0 {B w : World} {D : PH} {l : List HP} {lv sv mv : Value} {m : LogM} {ps : List EA} (n : Int) (hn : n < 1 ∨ 3 < n) (h : RefAt D lv sv mv m ps) (hs : Sat B D w l) :
    Calls Try.prog 24 #[.agg #[.int .i64 m.room, lv, sv, mv], .int .i64 n] w fun e w' => ∃ cs, e = .returned (.tuple #[.agg cs, .slice none 0 0, .int .i64 70]) ∧ TellsRef B D l m.room m ps cs w' := by
  have HR := Lib.hid h
  obtain ⟨es, h1, h2, h3, h4⟩ := h
  obtain ⟨lo, lc, rfl⟩ := h1.shape
  obtain ⟨so, sc, rfl⟩ := h3.shape
  obtain ⟨mo, mc, rfl⟩ := h4.shape
  have HS := Lib.hid hs
  clear h1 h2 h3 h4 hs
  have hn1 : n < 1 ∨ (¬ n < 1 ∧ 3 < n) := by omega
  clear hn
  rcases hn1 with h | ⟨h, h'⟩
  all_goals
    go_enter Try.func24, Try.ntmps24
    go_wp2_with fail
    have h3 := (HS.out.alloc #[.int .i64 m.room, .slice lo es.length lc, .slice so 4 sc, .slice mo m.met.length mc] tRef).alloc #[.int .i64 m.room, .slice lo es.length lc, .slice so 4 sc, .slice mo m.met.length mc] tRef
    refine bodyPost_ret (v := .tuple #[.agg #[.int .i64 m.room, .slice lo es.length lc, .slice so 4 sc, .slice mo m.met.length mc], .slice none 0 0, .int .i64 70]) (by simp [results, Try.results24, go_sem]) rfl ⟨_, rfl, _, _, _, D, rfl, PH.le.refl _, HR.out, ?_⟩
    exact h3.drop.drop

set_option maxHeartbeats 1000000 in
theorem backR_no1 {B w : World} {D : PH} {l : List HP} {lv sv mv : Value} {m : LogM} {ps : List EA} (hn : m.s1 = 0) (h : RefAt D lv sv mv m ps) (hs : Sat B D w l) :
    Calls Try.prog 24 #[.agg #[.int .i64 m.room, lv, sv, mv], .int .i64 1] w fun e w' => ∃ cs, e = .returned (.tuple #[.agg cs, .slice none 0 0, .int .i64 70]) ∧ TellsRef B D l m.room m ps cs w' := by
  have HR := Lib.hid h
  obtain ⟨es, h1, h2, h3, h4⟩ := h
  obtain ⟨lo, lc, rfl⟩ := h1.shape
  obtain ⟨so, sc, rfl⟩ := h3.shape
  obtain ⟨mo, mc, rfl⟩ := h4.shape
  have h0 := (hs.alloc #[.int .i64 m.room, .slice lo es.length lc, .slice so 4 sc, .slice mo m.met.length mc] tRef).alloc #[.int .i64 0, .slice none 0 0, .slice none 0 0, .slice none 0 0] tRef
  simp only [World.size_alloc] at h0
  have HS := Lib.hid h0
  have HSV := Lib.hid h3
  have HATN := Lib.hid hn
  clear h1 h2 h3 h4 hs h0 hn
  go_enter Try.func24, Try.ntmps24
  go_upto_region 1 with (fail)
  obtain ⟨W, hW, hsW⟩ := HS.out.hide
  rw [← hW]
  clear HS hW
  generalize w.heap.size + 1 = b1 at hsW ⊢
  generalize w.heap.size = b0 at hsW ⊢
  obtain ⟨c0, c1, c2, c3, cf⟩ := cells4 (hsW.blk 1 rfl)
  obtain ⟨z0, z1, z2, z3, zf⟩ := cells4 (hsW.blk 0 rfl)
  have hsv := HSV.out.rd hsW
  rcases hsv.2.2 with ⟨_, _, hv, _, _, _, hcell⟩
  cases hv
  rcases hcell with h0 | ⟨g, og, rfl, hc⟩
  · omega
  have hcell := hc 1 (.int .i64 (-1)) (by simp [svCells, HATN.out])
  have HW := Lib.hid hsW
  clear hc hsv hsW
  go_wp2_with fail
  refine bodyPost_ret (v := .tuple #[.agg #[.int .i64 m.room, .slice lo es.length lc, .slice (some ⟨g, og, none⟩) 4 sc, .slice mo m.met.length mc], .slice none 0 0, .int .i64 70]) (by simp [results, Try.results24, go_sem, z0, z1, z2, z3, zf]) rfl ⟨_, rfl, _, _, _, D, rfl, PH.le.refl _, HR.out, ?_⟩
  exact (HW.out.set4 _ _ _ _).drop.drop

set_option maxHeartbeats 4000000 in
theorem backR_1 {B w : World} {D : PH} {l : List HP} {lv sv mv : Value} {m : LogM} {ps : List EA} (at_ : Nat) (hn : m.s1 = at_ + 1) (hat : at_ ≤ ps.length) (h60 : ps.length ≤ 60) (h : RefAt D lv sv mv m ps) (hs : Sat B D w l) :
    Calls Try.prog 24 #[.agg #[.int .i64 m.room, lv, sv, mv], .int .i64 1] w fun e w' => ∃ cs v, e = .returned (.tuple #[.agg cs, v, .int .i64 0]) ∧ TellsBack B D l m at_ ps cs v w' := by
  obtain ⟨es, h1, h2, h3, h4⟩ := h
  have hlen := h2.1
  rw [← hlen] at h60 hat
  obtain ⟨lo, lc, rfl⟩ := h1.shape
  obtain ⟨so, sc, rfl⟩ := h3.shape
  obtain ⟨mo, mc, rfl⟩ := h4.shape
  have h0 := (hs.alloc #[.int .i64 m.room, .slice lo es.length lc, .slice so 4 sc, .slice mo m.met.length mc] tRef).alloc #[.int .i64 0, .slice none 0 0, .slice none 0 0, .slice none 0 0] tRef
  simp only [World.size_alloc] at h0
  have hlc : es.length ≤ lc ∧ lc ≤ maxLen := by
    obtain ⟨_, _, ao', cap', hv, q1, q2, _⟩ := h1
    cases hv
    exact ⟨q1, q2⟩
  unfold maxLen at hlc
  obtain ⟨i0, hi, hz0, hz1, hz2⟩ := info_parts infoInt
  have HI := Lib.hid (And.intro hi (And.intro hz0 (And.intro hz1 hz2)))
  have HTAKE := Lib.hid (h1.take hat)
  have HL := Lib.hid h1
  have HE := Lib.hid h2
  have HSV := Lib.hid h3
  have HM := Lib.hid h4
  have HS := Lib.hid h0
  have HONE := Lib.hid h2.one
  have HATN := Lib.hid hn
  clear h1 h2 h3 h4 hs h0 hi hz0 hz1 hz2 hlen hn
  generalize hN : es.length = N at *
  generalize hM : m.met.length = M at *
  go_enter Try.func24, Try.ntmps24
  go_upto_region 1 with (fail)
  obtain ⟨W, hW, hsW⟩ := HS.out.hide
  rw [← hW]
  clear HS hW
  generalize w.heap.size + 1 = b1 at hsW ⊢
  generalize w.heap.size = b0 at hsW ⊢
  obtain ⟨c0, c1, c2, c3, cf⟩ := cells4 (hsW.blk 1 rfl)
  have hsv := HSV.out.rd hsW
  rcases hsv.2.2 with ⟨_, _, hv, _, _, _, hcell⟩
  cases hv
  rcases hcell with h0 | ⟨g, og, rfl, hc⟩
  · omega
  have hcell := hc 1 (.int .i64 at_) (by simp [svCells, HATN.out])
  have HW := Lib.hid hsW
  clear hc hsv hsW
  go_upto_region 5 with (go_at_call 29; refine (turned_ok at_ (by omega) (by omega) (by rw [hN]; exact HL.out) HONE.out HW.out).mono ?_; rintro e2 w2 ⟨tv, rfl, D2, g2, r2, hs2⟩)
  clear c0 c1 c2 c3 cf hcell HW
  obtain ⟨c0, c1, c2, c3, cf⟩ := cells4 (hs2.blk 1 rfl)
  have HG2 := Lib.hid g2
  have HR2 := Lib.hid r2
  have HS2 := Lib.hid hs2
  clear g2 r2 hs2
  go_upto_region 6 with (fail)
  have h9 := HS2.out.modify 1 rfl (fun _ h => h.set 1 (.slice lo at_ lc))
  simp only [List.set_cons_succ, List.set_cons_zero, List.setIfInBounds_toArray] at h9
  obtain ⟨W3, hW3, h3⟩ := h9.hide
  rw [← hW3]
  have HN3 := Lib.hid (h3.own_nil 3 1)
  clear HS2 hW3 h3 c0 c1 c2 c3 cf h9
  go_upto_region 8 with (fail)
  go_wp2_with (fail)
  go_loopw [9, 10] (fun out i wr => ∃ (j : Nat) (o : Option Addr) (c : Nat), i = .int .i64 j ∧ j ≤ 4 ∧ out = .slice o j c ∧
      Sat B D2 wr (ownS 3 1 (.slice o j c) j ((((svI m).map (fun x => if (at_ : Int) < x then -1 else x)).take j).map (Value.int .i64)) :: blk b1 #[.int .i64 0, .slice none 0 0, .slice none 0 0, .slice none 0 0] tRef :: blk b0 #[.int .i64 m.room, .slice lo at_ lc, .slice (some ⟨g, og, none⟩) 4 sc, .slice mo M mc] tRef :: l))
    (fun _ i _ => 4 - (intOf i).toNat)
  case atStart => exact ⟨0, none, 0, rfl, by omega, rfl, by simpa using HN3.out⟩
  case round =>
    obtain ⟨j, o, c, rfl, hj, rfl, hsat⟩ := hrel
    obtain ⟨c0, c1, c2, c3, cf⟩ := cells4 (hsat.blk 2 rfl)
    have hsv := (HSV.out.mono HG2.out).rd hsat
    rcases hsv.2.2 with ⟨_, _, hv, _, _, _, hcell⟩
    cases hv
    rcases hcell with h0 | ⟨_, _, hg, hc⟩
    · omega
    cases hg
    have HSAT := Lib.hid hsat
    clear hsat HN3 hsv
    by_cases hlt : j < 4
    · obtain ⟨x, hx⟩ : ∃ x, (svI m)[j]? = some x := ⟨(svI m)[j]'(by simpa [svI] using hlt), List.getElem?_eq_getElem _⟩
      have a0 := hc j (.int .i64 x) (by rw [← svI_cells, List.getElem?_map, hx]; rfl)
      clear hc
      have HX := Lib.hid hx
      clear hx
      have hnew := fun y : Int => HSAT.out.alloc #[.int .i64 y] 3
      have HNW := Lib.hid hnew
      clear hnew
      have HO := Lib.hid (show ∀ y : Int, ∀ u ∈ [Value.int .i64 y], u.oneCell' = true by intro y u hu; simp at hu; subst hu; rfl)
      by_cases hgt : (at_ : Int) < x
      · have HB := Lib.hid (rd_block (size := 1) (n := 1) (HNW.out (-1)).heap_blk rfl (by unfold maxLen; omega))
        go_wp2_with (at_builtin; refine wpList_append_Sat _ rfl _ _ 43 rfl 3 i0 _ 1 8 Try.underlying43 HI.out.1 HI.out.2.1 HI.out.2.2.1 HI.out.2.2.2 rfl _ j _ rfl (HNW.out (-1)).swap _ 1 _ rfl HB.out (HO.out (-1)) (by unfold maxLen; omega) (by omega) ?_; intro v2 w2 h2 h2o; have H2 := Lib.hid h2.swap.drop; clear h2)
        obtain ⟨o2, c2, rfl⟩ := H2.out.own_shape
        go_roundw
        case rel =>
          refine ⟨j + 1, o2, c2, by go_num, by omega, rfl, ?_⟩
          have := H2.out
          rw [List.take_add_one, List.getElem?_map, HX.out]
          simpa [hgt] using this
        case measure => simp [intOf] <;> omega
      · have HB := Lib.hid (rd_block (size := 1) (n := 1) (HNW.out x).heap_blk rfl (by unfold maxLen; omega))
        go_wp2_with (at_builtin; refine wpList_append_Sat _ rfl _ _ 43 rfl 3 i0 _ 1 8 Try.underlying43 HI.out.1 HI.out.2.1 HI.out.2.2.1 HI.out.2.2.2 rfl _ j _ rfl (HNW.out x).swap _ 1 _ rfl HB.out (HO.out x) (by unfold maxLen; omega) (by omega) ?_; intro v2 w2 h2 h2o; have H2 := Lib.hid h2.swap.drop; clear h2)
        obtain ⟨o2, c2, rfl⟩ := H2.out.own_shape
        go_roundw
        case rel =>
          refine ⟨j + 1, o2, c2, by go_num, by omega, rfl, ?_⟩
          have := H2.out
          rw [List.take_add_one, List.getElem?_map, HX.out]
          simpa [hgt] using this
        case measure => simp [intOf] <;> omega
    · obtain rfl : j = 4 := by omega
      clear hc
      go_upto_region 15 with (fail)
      have h9 := HSAT.out.modify 2 rfl (fun _ h => h.set 2 (.slice o 4 c))
      simp only [List.set_cons_succ, List.set_cons_zero, List.setIfInBounds_toArray] at h9
      obtain ⟨W9, hW9, h9⟩ := h9.hide
      rw [← hW9]
      obtain ⟨D9, g9, r9, h9⟩ := h9.own_give
      clear HSAT hW9 c0 c1 c2 c3 cf
      obtain ⟨c0, c1, c2, c3, cf⟩ := cells4 (h9.blk 1 rfl)
      obtain ⟨z0, z1, z2, z3, zf⟩ := cells4 (h9.blk 0 rfl)
      have HS9 := Lib.hid h9
      have HG9 := Lib.hid g9
      have HR9 := Lib.hid r9
      clear h9 g9 r9
      go_wp2_with (fail)
      have le := HG2.out.trans HG9.out
      refine bodyPost_ret (v := .tuple #[.agg #[.int .i64 m.room, .slice lo at_ lc, .slice o 4 c, .slice mo M mc], tv, .int .i64 0]) (by simp [results, Try.results24, go_sem, z0, z1, z2, z3, zf]) rfl ⟨_, _, rfl, D9, le, ⟨_, _, _, rfl, es.take at_, ?_, (HE.out.mono le).take _, ?_, ?_⟩, ⟨(es.drop at_).reverse, ?_, ((HE.out.mono le).drop _).reverse⟩, ?_⟩
      · have e : (es.take at_).length = at_ := by rw [List.length_take, hN]; omega
        rw [e, ← flat_take Ent.len]
        exact HTAKE.out.mono le
      · have := HR9.out
        rw [svI_back, List.take_of_length_le (show (svI (m.back (at_ + 1))).length ≤ 4 by simp [svI])] at this
        rw [← svI_cells]
        exact this
      · rw [show (m.back (at_ + 1)).met = m.met from rfl, hM]
        exact HM.out.mono le
      · have := HR2.out.mono HG9.out
        rw [List.length_reverse, List.length_drop]
        exact this
      · exact (HS9.out.set4 _ _ _ _).drop.drop

set_option maxHeartbeats 1000000 in
theorem backR_no2 {B w : World} {D : PH} {l : List HP} {lv sv mv : Value} {m : LogM} {ps : List EA} (hn : m.s2 = 0) (h : RefAt D lv sv mv m ps) (hs : Sat B D w l) :
    Calls Try.prog 24 #[.agg #[.int .i64 m.room, lv, sv, mv], .int .i64 2] w fun e w' => ∃ cs, e = .returned (.tuple #[.agg cs, .slice none 0 0, .int .i64 70]) ∧ TellsRef B D l m.room m ps cs w' := by
  have HR := Lib.hid h
  obtain ⟨es, h1, h2, h3, h4⟩ := h
  obtain ⟨lo, lc, rfl⟩ := h1.shape
  obtain ⟨so, sc, rfl⟩ := h3.shape
  obtain ⟨mo, mc, rfl⟩ := h4.shape
  have h0 := (hs.alloc #[.int .i64 m.room, .slice lo es.length lc, .slice so 4 sc, .slice mo m.met.length mc] tRef).alloc #[.int .i64 0, .slice none 0 0, .slice none 0 0, .slice none 0 0] tRef
  simp only [World.size_alloc] at h0
  have HS := Lib.hid h0
  have HSV := Lib.hid h3
  have HATN := Lib.hid hn
  clear h1 h2 h3 h4 hs h0 hn
  go_enter Try.func24, Try.ntmps24
  go_upto_region 1 with (fail)
  obtain ⟨W, hW, hsW⟩ := HS.out.hide
  rw [← hW]
  clear HS hW
  generalize w.heap.size + 1 = b1 at hsW ⊢
  generalize w.heap.size = b0 at hsW ⊢
  obtain ⟨c0, c1, c2, c3, cf⟩ := cells4 (hsW.blk 1 rfl)
  obtain ⟨z0, z1, z2, z3, zf⟩ := cells4 (hsW.blk 0 rfl)
  have hsv := HSV.out.rd hsW
  rcases hsv.2.2 with ⟨_, _, hv, _, _, _, hcell⟩
  cases hv
  rcases hcell with h0 | ⟨g, og, rfl, hc⟩
  · omega
  have hcell := hc 2 (.int .i64 (-1)) (by simp [svCells, HATN.out])
  have HW := Lib.hid hsW
  clear hc hsv hsW
  go_wp2_with fail
  refine bodyPost_ret (v := .tuple #[.agg #[.int .i64 m.room, .slice lo es.length lc, .slice (some ⟨g, og, none⟩) 4 sc, .slice mo m.met.length mc], .slice none 0 0, .int .i64 70]) (by simp [results, Try.results24, go_sem, z0, z1, z2, z3, zf]) rfl ⟨_, rfl, _, _, _, D, rfl, PH.le.refl _, HR.out, ?_⟩
  exact (HW.out.set4 _ _ _ _).drop.drop

set_option maxHeartbeats 4000000 in
theorem backR_2 {B w : World} {D : PH} {l : List HP} {lv sv mv : Value} {m : LogM} {ps : List EA} (at_ : Nat) (hn : m.s2 = at_ + 1) (hat : at_ ≤ ps.length) (h60 : ps.length ≤ 60) (h : RefAt D lv sv mv m ps) (hs : Sat B D w l) :
    Calls Try.prog 24 #[.agg #[.int .i64 m.room, lv, sv, mv], .int .i64 2] w fun e w' => ∃ cs v, e = .returned (.tuple #[.agg cs, v, .int .i64 0]) ∧ TellsBack B D l m at_ ps cs v w' := by
  obtain ⟨es, h1, h2, h3, h4⟩ := h
  have hlen := h2.1
  rw [← hlen] at h60 hat
  obtain ⟨lo, lc, rfl⟩ := h1.shape
  obtain ⟨so, sc, rfl⟩ := h3.shape
  obtain ⟨mo, mc, rfl⟩ := h4.shape
  have h0 := (hs.alloc #[.int .i64 m.room, .slice lo es.length lc, .slice so 4 sc, .slice mo m.met.length mc] tRef).alloc #[.int .i64 0, .slice none 0 0, .slice none 0 0, .slice none 0 0] tRef
  simp only [World.size_alloc] at h0
  have hlc : es.length ≤ lc ∧ lc ≤ maxLen := by
    obtain ⟨_, _, ao', cap', hv, q1, q2, _⟩ := h1
    cases hv
    exact ⟨q1, q2⟩
  unfold maxLen at hlc
  obtain ⟨i0, hi, hz0, hz1, hz2⟩ := info_parts infoInt
  have HI := Lib.hid (And.intro hi (And.intro hz0 (And.intro hz1 hz2)))
  have HTAKE := Lib.hid (h1.take hat)
  have HL := Lib.hid h1
  have HE := Lib.hid h2
  have HSV := Lib.hid h3
  have HM := Lib.hid h4
  have HS := Lib.hid h0
  have HONE := Lib.hid h2.one
  have HATN := Lib.hid hn
  clear h1 h2 h3 h4 hs h0 hi hz0 hz1 hz2 hlen hn
  generalize hN : es.length = N at *
  generalize hM : m.met.length = M at *
  go_enter Try.func24, Try.ntmps24
  go_upto_region 1 with (fail)
  obtain ⟨W, hW, hsW⟩ := HS.out.hide
  rw [← hW]
  clear HS hW
  generalize w.heap.size + 1 = b1 at hsW ⊢
  generalize w.heap.size = b0 at hsW ⊢
  obtain ⟨c0, c1, c2, c3, cf⟩ := cells4 (hsW.blk 1 rfl)
  have hsv := HSV.out.rd hsW
  rcases hsv.2.2 with ⟨_, _, hv, _, _, _, hcell⟩
  cases hv
  rcases hcell with h0 | ⟨g, og, rfl, hc⟩
  · omega
  have hcell := hc 2 (.int .i64 at_) (by simp [svCells, HATN.out])
  have HW := Lib.hid hsW
  clear hc hsv hsW
  go_upto_region 5 with (go_at_call 29; refine (turned_ok at_ (by omega) (by omega) (by rw [hN]; exact HL.out) HONE.out HW.out).mono ?_; rintro e2 w2 ⟨tv, rfl, D2, g2, r2, hs2⟩)
  clear c0 c1 c2 c3 cf hcell HW
  obtain ⟨c0, c1, c2, c3, cf⟩ := cells4 (hs2.blk 1 rfl)
  have HG2 := Lib.hid g2
  have HR2 := Lib.hid r2
  have HS2 := Lib.hid hs2
  clear g2 r2 hs2
  go_upto_region 6 with (fail)
  have h9 := HS2.out.modify 1 rfl (fun _ h => h.set 1 (.slice lo at_ lc))
  simp only [List.set_cons_succ, List.set_cons_zero, List.setIfInBounds_toArray] at h9
  obtain ⟨W3, hW3, h3⟩ := h9.hide
  rw [← hW3]
  have HN3 := Lib.hid (h3.own_nil 3 1)
  clear HS2 hW3 h3 c0 c1 c2 c3 cf h9
  go_upto_region 8 with (fail)
  go_wp2_with (fail)
  go_loopw [9, 10] (fun out i wr => ∃ (j : Nat) (o : Option Addr) (c : Nat), i = .int .i64 j ∧ j ≤ 4 ∧ out = .slice o j c ∧
      Sat B D2 wr (ownS 3 1 (.slice o j c) j ((((svI m).map (fun x => if (at_ : Int) < x then -1 else x)).take j).map (Value.int .i64)) :: blk b1 #[.int .i64 0, .slice none 0 0, .slice none 0 0, .slice none 0 0] tRef :: blk b0 #[.int .i64 m.room, .slice lo at_ lc, .slice (some ⟨g, og, none⟩) 4 sc, .slice mo M mc] tRef :: l))
    (fun _ i _ => 4 - (intOf i).toNat)
  case atStart => exact ⟨0, none, 0, rfl, by omega, rfl, by simpa using HN3.out⟩
  case round =>
    obtain ⟨j, o, c, rfl, hj, rfl, hsat⟩ := hrel
    obtain ⟨c0, c1, c2, c3, cf⟩ := cells4 (hsat.blk 2 rfl)
    have hsv := (HSV.out.mono HG2.out).rd hsat
    rcases hsv.2.2 with ⟨_, _, hv, _, _, _, hcell⟩
    cases hv
    rcases hcell with h0 | ⟨_, _, hg, hc⟩
    · omega
    cases hg
    have HSAT := Lib.hid hsat
    clear hsat HN3 hsv
    by_cases hlt : j < 4
    · obtain ⟨x, hx⟩ : ∃ x, (svI m)[j]? = some x := ⟨(svI m)[j]'(by simpa [svI] using hlt), List.getElem?_eq_getElem _⟩
      have a0 := hc j (.int .i64 x) (by rw [← svI_cells, List.getElem?_map, hx]; rfl)
      clear hc
      have HX := Lib.hid hx
      clear hx
      have hnew := fun y : Int => HSAT.out.alloc #[.int .i64 y] 3
      have HNW := Lib.hid hnew
      clear hnew
      have HO := Lib.hid (show ∀ y : Int, ∀ u ∈ [Value.int .i64 y], u.oneCell' = true by intro y u hu; simp at hu; subst hu; rfl)
      by_cases hgt : (at_ : Int) < x
      · have HB := Lib.hid (rd_block (size := 1) (n := 1) (HNW.out (-1)).heap_blk rfl (by unfold maxLen; omega))
        go_wp2_with (at_builtin; refine wpList_append_Sat _ rfl _ _ 43 rfl 3 i0 _ 1 8 Try.underlying43 HI.out.1 HI.out.2.1 HI.out.2.2.1 HI.out.2.2.2 rfl _ j _ rfl (HNW.out (-1)).swap _ 1 _ rfl HB.out (HO.out (-1)) (by unfold maxLen; omega) (by omega) ?_; intro v2 w2 h2 h2o; have H2 := Lib.hid h2.swap.drop; clear h2)
        obtain ⟨o2, c2, rfl⟩ := H2.out.own_shape
        go_roundw
        case rel =>
          refine ⟨j + 1, o2, c2, by go_num, by omega, rfl, ?_⟩
          have := H2.out
          rw [List.take_add_one, List.getElem?_map, HX.out]
          simpa [hgt] using this
        case measure => simp [intOf] <;> omega
      · have HB := Lib.hid (rd_block (size := 1) (n := 1) (HNW.out x).heap_blk rfl (by unfold maxLen; omega))
        go_wp2_with (at_builtin; refine wpList_append_Sat _ rfl _ _ 43 rfl 3 i0 _ 1 8 Try.underlying43 HI.out.1 HI.out.2.1 HI.out.2.2.1 HI.out.2.2.2 rfl _ j _ rfl (HNW.out x).swap _ 1 _ rfl HB.out (HO.out x) (by unfold maxLen; omega) (by omega) ?_; intro v2 w2 h2 h2o; have H2 := Lib.hid h2.swap.drop; clear h2)
        obtain ⟨o2, c2, rfl⟩ := H2.out.own_shape
        go_roundw
        case rel =>
          refine ⟨j + 1, o2, c2, by go_num, by omega, rfl, ?_⟩
          have := H2.out
          rw [List.take_add_one, List.getElem?_map, HX.out]
          simpa [hgt] using this
        case measure => simp [intOf] <;> omega
    · obtain rfl : j = 4 := by omega
      clear hc
      go_upto_region 15 with (fail)
      have h9 := HSAT.out.modify 2 rfl (fun _ h => h.set 2 (.slice o 4 c))
      simp only [List.set_cons_succ, List.set_cons_zero, List.setIfInBounds_toArray] at h9
      obtain ⟨W9, hW9, h9⟩ := h9.hide
      rw [← hW9]
      obtain ⟨D9, g9, r9, h9⟩ := h9.own_give
      clear HSAT hW9 c0 c1 c2 c3 cf
      obtain ⟨c0, c1, c2, c3, cf⟩ := cells4 (h9.blk 1 rfl)
      obtain ⟨z0, z1, z2, z3, zf⟩ := cells4 (h9.blk 0 rfl)
      have HS9 := Lib.hid h9
      have HG9 := Lib.hid g9
      have HR9 := Lib.hid r9
      clear h9 g9 r9
      go_wp2_with (fail)
      have le := HG2.out.trans HG9.out
      refine bodyPost_ret (v := .tuple #[.agg #[.int .i64 m.room, .slice lo at_ lc, .slice o 4 c, .slice mo M mc], tv, .int .i64 0]) (by simp [results, Try.results24, go_sem, z0, z1, z2, z3, zf]) rfl ⟨_, _, rfl, D9, le, ⟨_, _, _, rfl, es.take at_, ?_, (HE.out.mono le).take _, ?_, ?_⟩, ⟨(es.drop at_).reverse, ?_, ((HE.out.mono le).drop _).reverse⟩, ?_⟩
      · have e : (es.take at_).length = at_ := by rw [List.length_take, hN]; omega
        rw [e, ← flat_take Ent.len]
        exact HTAKE.out.mono le
      · have := HR9.out
        rw [svI_back, List.take_of_length_le (show (svI (m.back (at_ + 1))).length ≤ 4 by simp [svI])] at this
        rw [← svI_cells]
        exact this
      · rw [show (m.back (at_ + 1)).met = m.met from rfl, hM]
        exact HM.out.mono le
      · have := HR2.out.mono HG9.out
        rw [List.length_reverse, List.length_drop]
        exact this
      · exact (HS9.out.set4 _ _ _ _).drop.drop

set_option maxHeartbeats 1000000 in
theorem backR_no3 {B w : World} {D : PH} {l : List HP} {lv sv mv : Value} {m : LogM} {ps : List EA} (hn : m.s3 = 0) (h : RefAt D lv sv mv m ps) (hs : Sat B D w l) :
    Calls Try.prog 24 #[.agg #[.int .i64 m.room, lv, sv, mv], .int .i64 3] w fun e w' => ∃ cs, e = .returned (.tuple #[.agg cs, .slice none 0 0, .int .i64 70]) ∧ TellsRef B D l m.room m ps cs w' := by
  have HR := Lib.hid h
  obtain ⟨es, h1, h2, h3, h4⟩ := h
  obtain ⟨lo, lc, rfl⟩ := h1.shape
  obtain ⟨so, sc, rfl⟩ := h3.shape
  obtain ⟨mo, mc, rfl⟩ := h4.shape
  have h0 := (hs.alloc #[.int .i64 m.room, .slice lo es.length lc, .slice so 4 sc, .slice mo m.met.length mc] tRef).alloc #[.int .i64 0, .slice none 0 0, .slice none 0 0, .slice none 0 0] tRef
  simp only [World.size_alloc] at h0
  have HS := Lib.hid h0
  have HSV := Lib.hid h3
  have HATN := Lib.hid hn
  clear h1 h2 h3 h4 hs h0 hn
  go_enter Try.func24, Try.ntmps24
  go_upto_region 1 with (fail)
  obtain ⟨W, hW, hsW⟩ := HS.out.hide
  rw [← hW]
  clear HS hW
  generalize w.heap.size + 1 = b1 at hsW ⊢
  generalize w.heap.size = b0 at hsW ⊢
  obtain ⟨c0, c1, c2, c3, cf⟩ := cells4 (hsW.blk 1 rfl)
  obtain ⟨z0, z1, z2, z3, zf⟩ := cells4 (hsW.blk 0 rfl)
  have hsv := HSV.out.rd hsW
  rcases hsv.2.2 with ⟨_, _, hv, _, _, _, hcell⟩
  cases hv
  rcases hcell with h0 | ⟨g, og, rfl, hc⟩
  · omega
  have hcell := hc 3 (.int .i64 (-1)) (by simp [svCells, HATN.out])
  have HW := Lib.hid hsW
  clear hc hsv hsW
  go_wp2_with fail
  refine bodyPost_ret (v := .tuple #[.agg #[.int .i64 m.room, .slice lo es.length lc, .slice (some ⟨g, og, none⟩) 4 sc, .slice mo m.met.length mc], .slice none 0 0, .int .i64 70]) (by simp [results, Try.results24, go_sem, z0, z1, z2, z3, zf]) rfl ⟨_, rfl, _, _, _, D, rfl, PH.le.refl _, HR.out, ?_⟩
  exact (HW.out.set4 _ _ _ _).drop.drop

set_option maxHeartbeats 4000000 in
theorem backR_3 {B w : World} {D : PH} {l : List HP} {lv sv mv : Value} {m : LogM} {ps : List EA} (at_ : Nat) (hn : m.s3 = at_ + 1) (hat : at_ ≤ ps.length) (h60 : ps.length ≤ 60) (h : RefAt D lv sv mv m ps) (hs : Sat B D w l) :
    Calls Try.prog 24 #[.agg #[.int .i64 m.room, lv, sv, mv], .int .i64 3] w fun e w' => ∃ cs v, e = .returned (.tuple #[.agg cs, v, .int .i64 0]) ∧ TellsBack B D l m at_ ps cs v w' := by
  obtain ⟨es, h1, h2, h3, h4⟩ := h
  have hlen := h2.1
  rw [← hlen] at h60 hat
  obtain ⟨lo, lc, rfl⟩ := h1.shape
  obtain ⟨so, sc, rfl⟩ := h3.shape
  obtain ⟨mo, mc, rfl⟩ := h4.shape
  have h0 := (hs.alloc #[.int .i64 m.room, .slice lo es.length lc, .slice so 4 sc, .slice mo m.met.length mc] tRef).alloc #[.int .i64 0, .slice none 0 0, .slice none 0 0, .slice none 0 0] tRef
  simp only [World.size_alloc] at h0
  have hlc : es.length ≤ lc ∧ lc ≤ maxLen := by
    obtain ⟨_, _, ao', cap', hv, q1, q2, _⟩ := h1
    cases hv
    exact ⟨q1, q2⟩
  unfold maxLen at hlc
  obtain ⟨i0, hi, hz0, hz1, hz2⟩ := info_parts infoInt
  have HI := Lib.hid (And.intro hi (And.intro hz0 (And.intro hz1 hz2)))
  have HTAKE := Lib.hid (h1.take hat)
  have HL := Lib.hid h1
  have HE := Lib.hid h2
  have HSV := Lib.hid h3
  have HM := Lib.hid h4
  have HS := Lib.hid h0
  have HONE := Lib.hid h2.one
  have HATN := Lib.hid hn
  clear h1 h2 h3 h4 hs h0 hi hz0 hz1 hz2 hlen hn
  generalize hN : es.length = N at *
  generalize hM : m.met.length = M at *
  go_enter Try.func24, Try.ntmps24
  go_upto_region 1 with (fail)
  obtain ⟨W, hW, hsW⟩ := HS.out.hide
  rw [← hW]
  clear HS hW
  generalize w.heap.size + 1 = b1 at hsW ⊢
  generalize w.heap.size = b0 at hsW ⊢
  obtain ⟨c0, c1, c2, c3, cf⟩ := cells4 (hsW.blk 1 rfl)
  have hsv := HSV.out.rd hsW
  rcases hsv.2.2 with ⟨_, _, hv, _, _, _, hcell⟩
  cases hv
  rcases hcell with h0 | ⟨g, og, rfl, hc⟩
  · omega
  have hcell := hc 3 (.int .i64 at_) (by simp [svCells, HATN.out])
  have HW := Lib.hid hsW
  clear hc hsv hsW
  go_upto_region 5 with (go_at_call 29; refine (turned_ok at_ (by omega) (by omega) (by rw [hN]; exact HL.out) HONE.out HW.out).mono ?_; rintro e2 w2 ⟨tv, rfl, D2, g2, r2, hs2⟩)
  clear c0 c1 c2 c3 cf hcell HW
  obtain ⟨c0, c1, c2, c3, cf⟩ := cells4 (hs2.blk 1 rfl)
  have HG2 := Lib.hid g2
  have HR2 := Lib.hid r2
  have HS2 := Lib.hid hs2
  clear g2 r2 hs2
  go_upto_region 6 with (fail)
  have h9 := HS2.out.modify 1 rfl (fun _ h => h.set 1 (.slice lo at_ lc))
  simp only [List.set_cons_succ, List.set_cons_zero, List.setIfInBounds_toArray] at h9
  obtain ⟨W3, hW3, h3⟩ := h9.hide
  rw [← hW3]
  have HN3 := Lib.hid (h3.own_nil 3 1)
  clear HS2 hW3 h3 c0 c1 c2 c3 cf h9
  go_upto_region 8 with (fail)
  go_wp2_with (fail)
  go_loopw [9, 10] (fun out i wr => ∃ (j : Nat) (o : Option Addr) (c : Nat), i = .int .i64 j ∧ j ≤ 4 ∧ out = .slice o j c ∧
      Sat B D2 wr (ownS 3 1 (.slice o j c) j ((((svI m).map (fun x => if (at_ : Int) < x then -1 else x)).take j).map (Value.int .i64)) :: blk b1 #[.int .i64 0, .slice none 0 0, .slice none 0 0, .slice none 0 0] tRef :: blk b0 #[.int .i64 m.room, .slice lo at_ lc, .slice (some ⟨g, og, none⟩) 4 sc, .slice mo M mc] tRef :: l))
    (fun _ i _ => 4 - (intOf i).toNat)
  case atStart => exact ⟨0, none, 0, rfl, by omega, rfl, by simpa using HN3.out⟩
  case round =>
    obtain ⟨j, o, c, rfl, hj, rfl, hsat⟩ := hrel
    obtain ⟨c0, c1, c2, c3, cf⟩ := cells4 (hsat.blk 2 rfl)
    have hsv := (HSV.out.mono HG2.out).rd hsat
    rcases hsv.2.2 with ⟨_, _, hv, _, _, _, hcell⟩
    cases hv
    rcases hcell with h0 | ⟨_, _, hg, hc⟩
    · omega
    cases hg
    have HSAT := Lib.hid hsat
    clear hsat HN3 hsv
    by_cases hlt : j < 4
    · obtain ⟨x, hx⟩ : ∃ x, (svI m)[j]? = some x := ⟨(svI m)[j]'(by simpa [svI] using hlt), List.getElem?_eq_getElem _⟩
      have a0 := hc j (.int .i64 x) (by rw [← svI_cells, List.getElem?_map, hx]; rfl)
      clear hc
      have HX := Lib.hid hx
      clear hx
      have hnew := fun y : Int => HSAT.out.alloc #[.int .i64 y] 3
      have HNW := Lib.hid hnew
      clear hnew
      have HO := Lib.hid (show ∀ y : Int, ∀ u ∈ [Value.int .i64 y], u.oneCell' = true by intro y u hu; simp at hu; subst hu; rfl)
      by_cases hgt : (at_ : Int) < x
      · have HB := Lib.hid (rd_block (size := 1) (n := 1) (HNW.out (-1)).heap_blk rfl (by unfold maxLen; omega))
        go_wp2_with (at_builtin; refine wpList_append_Sat _ rfl _ _ 43 rfl 3 i0 _ 1 8 Try.underlying43 HI.out.1 HI.out.2.1 HI.out.2.2.1 HI.out.2.2.2 rfl _ j _ rfl (HNW.out (-1)).swap _ 1 _ rfl HB.out (HO.out (-1)) (by unfold maxLen; omega) (by omega) ?_; intro v2 w2 h2 h2o; have H2 := Lib.hid h2.swap.drop; clear h2)
        obtain ⟨o2, c2, rfl⟩ := H2.out.own_shape
        go_roundw
        case rel =>
          refine ⟨j + 1, o2, c2, by go_num, by omega, rfl, ?_⟩
          have := H2.out
          rw [List.take_add_one, List.getElem?_map, HX.out]
          simpa [hgt] using this
        case measure => simp [intOf] <;> omega
      · have HB := Lib.hid (rd_block (size := 1) (n := 1) (HNW.out x).heap_blk rfl (by unfold maxLen; omega))
        go_wp2_with (at_builtin; refine wpList_append_Sat _ rfl _ _ 43 rfl 3 i0 _ 1 8 Try.underlying43 HI.out.1 HI.out.2.1 HI.out.2.2.1 HI.out.2.2.2 rfl _ j _ rfl (HNW.out x).swap _ 1 _ rfl HB.out (HO.out x) (by unfold maxLen; omega) (by omega) ?_; intro v2 w2 h2 h2o; have H2 := Lib.hid h2.swap.drop; clear h2)
        obtain ⟨o2, c2, rfl⟩ := H2.out.own_shape
        go_roundw
        case rel =>
          refine ⟨j + 1, o2, c2, by go_num, by omega, rfl, ?_⟩
          have := H2.out
          rw [List.take_add_one, List.getElem?_map, HX.out]
          simpa [hgt] using this
        case measure => simp [intOf] <;> omega
    · obtain rfl : j = 4 := by omega
      clear hc
      go_upto_region 15 with (fail)
      have h9 := HSAT.out.modify 2 rfl (fun _ h => h.set 2 (.slice o 4 c))
      simp only [List.set_cons_succ, List.set_cons_zero, List.setIfInBounds_toArray] at h9
      obtain ⟨W9, hW9, h9⟩ := h9.hide
      rw [← hW9]
      obtain ⟨D9, g9, r9, h9⟩ := h9.own_give
      clear HSAT hW9 c0 c1 c2 c3 cf
      obtain ⟨c0, c1, c2, c3, cf⟩ := cells4 (h9.blk 1 rfl)
      obtain ⟨z0, z1, z2, z3, zf⟩ := cells4 (h9.blk 0 rfl)
      have HS9 := Lib.hid h9
      have HG9 := Lib.hid g9
      have HR9 := Lib.hid r9
      clear h9 g9 r9
      go_wp2_with (fail)
      have le := HG2.out.trans HG9.out
      refine bodyPost_ret (v := .tuple #[.agg #[.int .i64 m.room, .slice lo at_ lc, .slice o 4 c, .slice mo M mc], tv, .int .i64 0]) (by simp [results, Try.results24, go_sem, z0, z1, z2, z3, zf]) rfl ⟨_, _, rfl, D9, le, ⟨_, _, _, rfl, es.take at_, ?_, (HE.out.mono le).take _, ?_, ?_⟩, ⟨(es.drop at_).reverse, ?_, ((HE.out.mono le).drop _).reverse⟩, ?_⟩
      · have e : (es.take at_).length = at_ := by rw [List.length_take, hN]; omega
        rw [e, ← flat_take Ent.len]
        exact HTAKE.out.mono le
      · have := HR9.out
        rw [svI_back, List.take_of_length_le (show (svI (m.back (at_ + 1))).length ≤ 4 by simp [svI])] at this
        rw [← svI_cells]
        exact this
      · rw [show (m.back (at_ + 1)).met = m.met from rfl, hM]
        exact HM.out.mono le
      · have := HR2.out.mono HG9.out
        rw [List.length_reverse, List.length_drop]
        exact this
      · exact (HS9.out.set4 _ _ _ _).drop.drop

theorem backR_no {B w : World} {D : PH} {l : List HP} {lv sv mv : Value} {m : LogM} {ps : List EA} (n : Int) (hn : n < 1 ∨ 3 < n ∨ m.getS n = 0) (h : RefAt D lv sv mv m ps) (hs : Sat B D w l) :
    Calls Try.prog 24 #[.agg #[.int .i64 m.room, lv, sv, mv], .int .i64 n] w fun e w' => ∃ cs, e = .returned (.tuple #[.agg cs, .slice none 0 0, .int .i64 70]) ∧ TellsRef B D l m.room m ps cs w' := by
  by_cases h1 : n < 1 ∨ 3 < n
  · exact backR_no0 n h1 h hs
  · have hc : n = 1 ∨ n = 2 ∨ n = 3 := by omega
    have h0 : m.getS n = 0 := by omega
    rcases hc with rfl | rfl | rfl
    · exact backR_no1 h0 h hs
    · exact backR_no2 h0 h hs
    · exact backR_no3 h0 h hs
theorem backR_ok {B w : World} {D : PH} {l : List HP} {lv sv mv : Value} {m : LogM} {ps : List EA} (n : Int) (hn : 1 ≤ n ∧ n ≤ 3) (at_ : Nat) (h0 : m.getS n = at_ + 1) (hat : at_ ≤ ps.length) (h60 : ps.length ≤ 60) (h : RefAt D lv sv mv m ps) (hs : Sat B D w l) :
    Calls Try.prog 24 #[.agg #[.int .i64 m.room, lv, sv, mv], .int .i64 n] w fun e w' => ∃ cs v, e = .returned (.tuple #[.agg cs, v, .int .i64 0]) ∧ TellsBack B D l m at_ ps cs v w' := by
  have hc : n = 1 ∨ n = 2 ∨ n = 3 := by omega
  rcases hc with rfl | rfl | rfl
  · exact backR_1 at_ h0 hat h60 h hs
  · exact backR_2 at_ h0 hat h60 h hs
  · exact backR_3 at_ h0 hat h60 h hs
end Go.Proofs.Ytokcpmeoiblpfaa
