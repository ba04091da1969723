/- The reference of the undo log: contracts of Save, Back, All. -/
import Derived.Test.YtokcpmeoiblpfaaRef07b
namespace Go.Proofs.Ytokcpmeoiblpfaa
open Go.ChangeShapes Go.WideShapes Go.ChangeAt Go.RowKit
set_option maxRecDepth 100000
set_option linter.unusedSimpArgs false

theorem infoInt : (Try.prog.info? 3).map (fun i => (i.zero, i.size, i.bytes)) = some (some (.int .i64 0), 1, 8) := by kernel_rfl
def svI (m : LogM) : List Int := [-1, m.s1 - 1, m.s2 - 1, m.s3 - 1]
theorem svI_cells (m : LogM) : (svI m).map (Value.int .i64) = svCells m := rfl

set_option maxHeartbeats 1000000 in
theorem saveR_no {B w : World} {D : PH} {l : List HP} {lv sv mv : Value} {m : LogM} {ps : List EA} (n : Int) (hn : n < 1 ∨ 3 < n) (h : RefAt D lv sv mv m ps) (hs : Sat B D w l) :
    Calls Try.prog 23 #[.agg #[.int .i64 m.room, lv, sv, mv], .int .i64 n] w fun e w' => ∃ cs, e = .returned (.tuple #[.agg cs, .int .i64 70]) ∧ TellsRef B D l m.room m ps cs w' := by
  have HR := Lib.hid h
  obtain ⟨es, h1, h2, h3, h4⟩ := h
  obtain ⟨lo, lc, rfl⟩ := h1.shape
  obtain ⟨so, sc, rfl⟩ := h3.shape
  obtain ⟨mo, mc, rfl⟩ := h4.shape
  have HS := Lib.hid hs
  clear h1 h2 h3 h4 hs
  have hn1 : n < 1 ∨ (¬ n < 1 ∧ 3 < n) := by omega
  clear hn
  rcases hn1 with h | ⟨h, h'⟩
  all_goals
    go_enter Try.func23, Try.ntmps23
    go_wp2_with fail
    have h3 := (HS.out.alloc #[.int .i64 m.room, .slice lo es.length lc, .slice so 4 sc, .slice mo m.met.length mc] tRef).alloc #[.int .i64 m.room, .slice lo es.length lc, .slice so 4 sc, .slice mo m.met.length mc] tRef
    refine bodyPost_ret (v := .tuple #[.agg #[.int .i64 m.room, .slice lo es.length lc, .slice so 4 sc, .slice mo m.met.length mc], .int .i64 70]) (by simp [results, Try.results23, go_sem]) rfl ⟨_, rfl, _, _, _, D, rfl, PH.le.refl _, HR.out, ?_⟩
    exact h3.drop.drop

set_option maxHeartbeats 2000000 in
theorem saveR_1 {B w : World} {D : PH} {l : List HP} {lv sv mv : Value} {m : LogM} {ps : List EA} (h60 : ps.length ≤ 60) (h : RefAt D lv sv mv m ps) (hs : Sat B D w l) :
    Calls Try.prog 23 #[.agg #[.int .i64 m.room, lv, sv, mv], .int .i64 1] w fun e w' => ∃ cs, e = .returned (.tuple #[.agg cs, .int .i64 0]) ∧ TellsRef B D l m.room (m.setS 1 (ps.length + 1)) ps cs w' := by
  obtain ⟨es, h1, h2, h3, h4⟩ := h
  have hlen := h2.1
  rw [← hlen] at h60 ⊢
  obtain ⟨lo, lc, rfl⟩ := h1.shape
  obtain ⟨so, sc, rfl⟩ := h3.shape
  obtain ⟨mo, mc, rfl⟩ := h4.shape
  have h0 := (hs.alloc #[.int .i64 m.room, .slice lo es.length lc, .slice so 4 sc, .slice mo m.met.length mc] tRef).alloc #[.int .i64 0, .slice none 0 0, .slice none 0 0, .slice none 0 0] tRef
  simp only [World.size_alloc] at h0
  obtain ⟨i0, hi, hz0, hz1, hz2⟩ := info_parts infoInt
  have HI := Lib.hid (And.intro hi (And.intro hz0 (And.intro hz1 hz2)))
  have HL := Lib.hid h1
  have HE := Lib.hid h2
  have HSV := Lib.hid h3
  have HM := Lib.hid h4
  have HS := Lib.hid h0
  have HONES := Lib.hid (show ∀ u ∈ svCells m, u.oneCell' = true by intro u hu; simp [svCells] at hu; rcases hu with rfl | rfl | rfl | rfl <;> rfl)
  clear h1 h2 h3 h4 hs h0 hi hz0 hz1 hz2 hlen
  generalize hN : es.length = N at *
  generalize hM : m.met.length = M at *
  go_enter Try.func23, Try.ntmps23
  go_upto_region 3 with (fail)
  obtain ⟨W, hW, hsW⟩ := HS.out.hide
  rw [← hW]
  clear HS hW
  generalize w.heap.size + 1 = b1 at hsW ⊢
  generalize w.heap.size = b0 at hsW ⊢
  obtain ⟨c0, c1, c2, c3, cf⟩ := cells4 (hsW.blk 1 rfl)
  have HN0 := Lib.hid (hsW.own_nil 3 1)
  have HRD := Lib.hid (HSV.out.rd hsW)
  clear hsW
  go_upto_region 5 with (at_builtin; refine wpList_append_Sat _ rfl _ _ 43 rfl 3 i0 _ 1 8 Try.underlying43 HI.out.1 HI.out.2.1 HI.out.2.2.1 HI.out.2.2.2 rfl _ 0 _ rfl HN0.out _ 4 _ rfl HRD.out HONES.out (by unfold maxLen; omega) (by omega) ?_; intro v2 w2 h2 h2o; simp only [Nat.zero_add, List.nil_append] at h2; have H2 := Lib.hid h2; clear h2)
  obtain ⟨g2, k2, rfl, hk2, _⟩ := (H2.out.own 0 rfl).form (by omega)
  clear HN0 HRD c0 c1 c2 c3 cf
  obtain ⟨c0, c1, c2, c3, cf⟩ := cells4 (H2.out.blk 2 rfl)
  obtain ⟨z, _, hrow⟩ := (H2.out.own 0 rfl).row
  have x1 := hrow.cell (j := 1) (u := .int .i64 (m.s1 - 1)) rfl
  have xf := hrow.frozen
  clear hrow
  go_upto_region 6 with (fail)
  obtain ⟨W5, hW5, h5⟩ := (H2.out.own_set 1 (.int .i64 N) rfl).hide
  rw [← hW5]
  obtain ⟨D5, g1, g2', h5⟩ := h5.own_give
  clear H2 hW5 c0 c1 c2 c3 cf x1 xf
  obtain ⟨c0, c1, c2, c3, cf⟩ := cells4 (h5.blk 1 rfl)
  have H5 := Lib.hid h5
  have HG1 := Lib.hid g1
  have HG2 := Lib.hid g2'
  clear g1 g2' h5
  go_upto_region 7 with (fail)
  have h9 := H5.out.modify 1 rfl (fun _ h => h.set 2 (.slice (some ⟨g2, 0, none⟩) 4 k2))
  simp only [List.set_cons_succ, List.set_cons_zero, List.setIfInBounds_toArray] at h9
  obtain ⟨W9, hW9, h9⟩ := h9.hide
  rw [← hW9]
  clear H5 hW9 c0 c1 c2 c3 cf
  obtain ⟨c0, c1, c2, c3, cf⟩ := cells4 (h9.blk 1 rfl)
  obtain ⟨z0, z1, z2, z3, zf⟩ := cells4 (h9.blk 0 rfl)
  have H9 := Lib.hid h9
  clear h9
  go_wp2_with (fail)
  refine bodyPost_ret (v := .tuple #[.agg #[.int .i64 m.room, .slice lo N lc, .slice (some ⟨g2, 0, none⟩) 4 k2, .slice mo M mc], .int .i64 0]) (by simp [results, Try.results23, go_sem, z0, z1, z2, z3, zf]) rfl ⟨_, rfl, _, _, _, D5, rfl, HG1.out, ⟨es, ?_, HE.out.mono HG1.out, ?_, ?_⟩, ?_⟩
  · rw [hN]; exact HL.out.mono HG1.out
  · have e : (svCells m).set 1 (.int .i64 N) = svCells (m.setS 1 (N + 1)) := by simp [svCells, LogM.setS]
    rw [← e]; exact HG2.out
  · have e : (m.setS 1 (N + 1)).met = m.met := rfl
    rw [e, hM]; exact HM.out.mono HG1.out
  · exact (H9.out.set4 _ _ _ _).drop.drop

set_option maxHeartbeats 2000000 in
theorem saveR_2 {B w : World} {D : PH} {l : List HP} {lv sv mv : Value} {m : LogM} {ps : List EA} (h60 : ps.length ≤ 60) (h : RefAt D lv sv mv m ps) (hs : Sat B D w l) :
    Calls Try.prog 23 #[.agg #[.int .i64 m.room, lv, sv, mv], .int .i64 2] w fun e w' => ∃ cs, e = .returned (.tuple #[.agg cs, .int .i64 0]) ∧ TellsRef B D l m.room (m.setS 2 (ps.length + 1)) ps cs w' := by
  obtain ⟨es, h1, h2, h3, h4⟩ := h
  have hlen := h2.1
  rw [← hlen] at h60 ⊢
  obtain ⟨lo, lc, rfl⟩ := h1.shape
  obtain ⟨so, sc, rfl⟩ := h3.shape
  obtain ⟨mo, mc, rfl⟩ := h4.shape
  have h0 := (hs.alloc #[.int .i64 m.room, .slice lo es.length lc, .slice so 4 sc, .slice mo m.met.length mc] tRef).alloc #[.int .i64 0, .slice none 0 0, .slice none 0 0, .slice none 0 0] tRef
  simp only [World.size_alloc] at h0
  obtain ⟨i0, hi, hz0, hz1, hz2⟩ := info_parts infoInt
  have HI := Lib.hid (And.intro hi (And.intro hz0 (And.intro hz1 hz2)))
  have HL := Lib.hid h1
  have HE := Lib.hid h2
  have HSV := Lib.hid h3
  have HM := Lib.hid h4
  have HS := Lib.hid h0
  have HONES := Lib.hid (show ∀ u ∈ svCells m, u.oneCell' = true by intro u hu; simp [svCells] at hu; rcases hu with rfl | rfl | rfl | rfl <;> rfl)
  clear h1 h2 h3 h4 hs h0 hi hz0 hz1 hz2 hlen
  generalize hN : es.length = N at *
  generalize hM : m.met.length = M at *
  go_enter Try.func23, Try.ntmps23
  go_upto_region 3 with (fail)
  obtain ⟨W, hW, hsW⟩ := HS.out.hide
  rw [← hW]
  clear HS hW
  generalize w.heap.size + 1 = b1 at hsW ⊢
  generalize w.heap.size = b0 at hsW ⊢
  obtain ⟨c0, c1, c2, c3, cf⟩ := cells4 (hsW.blk 1 rfl)
  have HN0 := Lib.hid (hsW.own_nil 3 1)
  have HRD := Lib.hid (HSV.out.rd hsW)
  clear hsW
  go_upto_region 5 with (at_builtin; refine wpList_append_Sat _ rfl _ _ 43 rfl 3 i0 _ 1 8 Try.underlying43 HI.out.1 HI.out.2.1 HI.out.2.2.1 HI.out.2.2.2 rfl _ 0 _ rfl HN0.out _ 4 _ rfl HRD.out HONES.out (by unfold maxLen; omega) (by omega) ?_; intro v2 w2 h2 h2o; simp only [Nat.zero_add, List.nil_append] at h2; have H2 := Lib.hid h2; clear h2)
  obtain ⟨g2, k2, rfl, hk2, _⟩ := (H2.out.own 0 rfl).form (by omega)
  clear HN0 HRD c0 c1 c2 c3 cf
  obtain ⟨c0, c1, c2, c3, cf⟩ := cells4 (H2.out.blk 2 rfl)
  obtain ⟨z, _, hrow⟩ := (H2.out.own 0 rfl).row
  have x2 := hrow.cell (j := 2) (u := .int .i64 (m.s2 - 1)) rfl
  have xf := hrow.frozen
  clear hrow
  go_upto_region 6 with (fail)
  obtain ⟨W5, hW5, h5⟩ := (H2.out.own_set 2 (.int .i64 N) rfl).hide
  rw [← hW5]
  obtain ⟨D5, g1, g2', h5⟩ := h5.own_give
  clear H2 hW5 c0 c1 c2 c3 cf x2 xf
  obtain ⟨c0, c1, c2, c3, cf⟩ := cells4 (h5.blk 1 rfl)
  have H5 := Lib.hid h5
  have HG1 := Lib.hid g1
  have HG2 := Lib.hid g2'
  clear g1 g2' h5
  go_upto_region 7 with (fail)
  have h9 := H5.out.modify 1 rfl (fun _ h => h.set 2 (.slice (some ⟨g2, 0, none⟩) 4 k2))
  simp only [List.set_cons_succ, List.set_cons_zero, List.setIfInBounds_toArray] at h9
  obtain ⟨W9, hW9, h9⟩ := h9.hide
  rw [← hW9]
  clear H5 hW9 c0 c1 c2 c3 cf
  obtain ⟨c0, c1, c2, c3, cf⟩ := cells4 (h9.blk 1 rfl)
  obtain ⟨z0, z1, z2, z3, zf⟩ := cells4 (h9.blk 0 rfl)
  have H9 := Lib.hid h9
  clear h9
  go_wp2_with (fail)
  refine bodyPost_ret (v := .tuple #[.agg #[.int .i64 m.room, .slice lo N lc, .slice (some ⟨g2, 0, none⟩) 4 k2, .slice mo M mc], .int .i64 0]) (by simp [results, Try.results23, go_sem, z0, z1, z2, z3, zf]) rfl ⟨_, rfl, _, _, _, D5, rfl, HG1.out, ⟨es, ?_, HE.out.mono HG1.out, ?_, ?_⟩, ?_⟩
  · rw [hN]; exact HL.out.mono HG1.out
  · have e : (svCells m).set 2 (.int .i64 N) = svCells (m.setS 2 (N + 1)) := by simp [svCells, LogM.setS]
    rw [← e]; exact HG2.out
  · have e : (m.setS 2 (N + 1)).met = m.met := rfl
    rw [e, hM]; exact HM.out.mono HG1.out
  · exact (H9.out.set4 _ _ _ _).drop.drop

set_option maxHeartbeats 2000000 in
theorem saveR_3 {B w : World} {D : PH} {l : List HP} {lv sv mv : Value} {m : LogM} {ps : List EA} (h60 : ps.length ≤ 60) (h : RefAt D lv sv mv m ps) (hs : Sat B D w l) :
    Calls Try.prog 23 #[.agg #[.int .i64 m.room, lv, sv, mv], .int .i64 3] w fun e w' => ∃ cs, e = .returned (.tuple #[.agg cs, .int .i64 0]) ∧ TellsRef B D l m.room (m.setS 3 (ps.length + 1)) ps cs w' := by
  obtain ⟨es, h1, h2, h3, h4⟩ := h
  have hlen := h2.1
  rw [← hlen] at h60 ⊢
  obtain ⟨lo, lc, rfl⟩ := h1.shape
  obtain ⟨so, sc, rfl⟩ := h3.shape
  obtain ⟨mo, mc, rfl⟩ := h4.shape
  have h0 := (hs.alloc #[.int .i64 m.room, .slice lo es.length lc, .slice so 4 sc, .slice mo m.met.length mc] tRef).alloc #[.int .i64 0, .slice none 0 0, .slice none 0 0, .slice none 0 0] tRef
  simp only [World.size_alloc] at h0
  obtain ⟨i0, hi, hz0, hz1, hz2⟩ := info_parts infoInt
  have HI := Lib.hid (And.intro hi (And.intro hz0 (And.intro hz1 hz2)))
  have HL := Lib.hid h1
  have HE := Lib.hid h2
  have HSV := Lib.hid h3
  have HM := Lib.hid h4
  have HS := Lib.hid h0
  have HONES := Lib.hid (show ∀ u ∈ svCells m, u.oneCell' = true by intro u hu; simp [svCells] at hu; rcases hu with rfl | rfl | rfl | rfl <;> rfl)
  clear h1 h2 h3 h4 hs h0 hi hz0 hz1 hz2 hlen
  generalize hN : es.length = N at *
  generalize hM : m.met.length = M at *
  go_enter Try.func23, Try.ntmps23
  go_upto_region 3 with (fail)
  obtain ⟨W, hW, hsW⟩ := HS.out.hide
  rw [← hW]
  clear HS hW
  generalize w.heap.size + 1 = b1 at hsW ⊢
  generalize w.heap.size = b0 at hsW ⊢
  obtain ⟨c0, c1, c2, c3, cf⟩ := cells4 (hsW.blk 1 rfl)
  have HN0 := Lib.hid (hsW.own_nil 3 1)
  have HRD := Lib.hid (HSV.out.rd hsW)
  clear hsW
  go_upto_region 5 with (at_builtin; refine wpList_append_Sat _ rfl _ _ 43 rfl 3 i0 _ 1 8 Try.underlying43 HI.out.1 HI.out.2.1 HI.out.2.2.1 HI.out.2.2.2 rfl _ 0 _ rfl HN0.out _ 4 _ rfl HRD.out HONES.out (by unfold maxLen; omega) (by omega) ?_; intro v2 w2 h2 h2o; simp only [Nat.zero_add, List.nil_append] at h2; have H2 := Lib.hid h2; clear h2)
  obtain ⟨g2, k2, rfl, hk2, _⟩ := (H2.out.own 0 rfl).form (by omega)
  clear HN0 HRD c0 c1 c2 c3 cf
  obtain ⟨c0, c1, c2, c3, cf⟩ := cells4 (H2.out.blk 2 rfl)
  obtain ⟨z, _, hrow⟩ := (H2.out.own 0 rfl).row
  have x3 := hrow.cell (j := 3) (u := .int .i64 (m.s3 - 1)) rfl
  have xf := hrow.frozen
  clear hrow
  go_upto_region 6 with (fail)
  obtain ⟨W5, hW5, h5⟩ := (H2.out.own_set 3 (.int .i64 N) rfl).hide
  rw [← hW5]
  obtain ⟨D5, g1, g2', h5⟩ := h5.own_give
  clear H2 hW5 c0 c1 c2 c3 cf x3 xf
  obtain ⟨c0, c1, c2, c3, cf⟩ := cells4 (h5.blk 1 rfl)
  have H5 := Lib.hid h5
  have HG1 := Lib.hid g1
  have HG2 := Lib.hid g2'
  clear g1 g2' h5
  go_upto_region 7 with (fail)
  have h9 := H5.out.modify 1 rfl (fun _ h => h.set 2 (.slice (some ⟨g2, 0, none⟩) 4 k2))
  simp only [List.set_cons_succ, List.set_cons_zero, List.setIfInBounds_toArray] at h9
  obtain ⟨W9, hW9, h9⟩ := h9.hide
  rw [← hW9]
  clear H5 hW9 c0 c1 c2 c3 cf
  obtain ⟨c0, c1, c2, c3, cf⟩ := cells4 (h9.blk 1 rfl)
  obtain ⟨z0, z1, z2, z3, zf⟩ := cells4 (h9.blk 0 rfl)
  have H9 := Lib.hid h9
  clear h9
  go_wp2_with (fail)
  refine bodyPost_ret (v := .tuple #[.agg #[.int .i64 m.room, .slice lo N lc, .slice (some ⟨g2, 0, none⟩) 4 k2, .slice mo M mc], .int .i64 0]) (by simp [results, Try.results23, go_sem, z0, z1, z2, z3, zf]) rfl ⟨_, rfl, _, _, _, D5, rfl, HG1.out, ⟨es, ?_, HE.out.mono HG1.out, ?_, ?_⟩, ?_⟩
  · rw [hN]; exact HL.out.mono HG1.out
  · have e : (svCells m).set 3 (.int .i64 N) = svCells (m.setS 3 (N + 1)) := by simp [svCells, LogM.setS]
    rw [← e]; exact HG2.out
  · have e : (m.setS 3 (N + 1)).met = m.met := rfl
    rw [e, hM]; exact HM.out.mono HG1.out
  · exact (H9.out.set4 _ _ _ _).drop.drop

theorem saveR_ok {B w : World} {D : PH} {l : List HP} {lv sv mv : Value} {m : LogM} {ps : List EA} (n : Int) (hn : 1 ≤ n ∧ n ≤ 3) (h60 : ps.length ≤ 60) (h : RefAt D lv sv mv m ps) (hs : Sat B D w l) :
    Calls Try.prog 23 #[.agg #[.int .i64 m.room, lv, sv, mv], .int .i64 n] w fun e w' => ∃ cs, e = .returned (.tuple #[.agg cs, .int .i64 0]) ∧ TellsRef B D l m.room (m.setS n (ps.length + 1)) ps cs w' := by
  have hc : n = 1 ∨ n = 2 ∨ n = 3 := by omega
  rcases hc with rfl | rfl | rfl
  · exact saveR_1 h60 h hs
  · exact saveR_2 h60 h hs
  · exact saveR_3 h60 h hs
end Go.Proofs.Ytokcpmeoiblpfaa
