/- Contract of undo.(*Log).All. -/
import Derived.Test.YtokcpmeoiblpfaaUndo7
namespace Go.Proofs.Ytokcpmeoiblpfaa
open Go.ChangeShapes Go.WideShapes Go.ChangeAt Go.RowKit
set_option maxRecDepth 100000

/-- eight cells stored -/
abbrev put8 (w : World) (b : Nat) (x0 x1 x2 x3 x4 x5 x6 x7 : Value) : World :=
  ((((((((w.setCell ⟨b, 0, none⟩ x0).setCell ⟨b, 1, none⟩ x1).setCell ⟨b, 2, none⟩ x2).setCell ⟨b, 3, none⟩ x3).setCell ⟨b, 4, none⟩ x4).setCell ⟨b, 5, none⟩ x5).setCell ⟨b, 6, none⟩ x6).setCell ⟨b, 7, none⟩ x7)
theorem put8_kept (w : World) (b : Nat) (x0 x1 x2 x3 x4 x5 x6 x7 : Value) : Kept (fun k => k = b) w (put8 w b x0 x1 x2 x3 x4 x5 x6 x7) := by
  have ht : ∀ k, (k = b → k = b ∨ w.heap.size ≤ k) := fun _ h => .inl h
  exact ((((((((Kept.set_at _ _ _ _).trans (Kept.set_at _ _ _ _) ht).trans (Kept.set_at _ _ _ _) ht).trans (Kept.set_at _ _ _ _) ht).trans (Kept.set_at _ _ _ _) ht).trans (Kept.set_at _ _ _ _) ht).trans (Kept.set_at _ _ _ _) ht).trans (Kept.set_at _ _ _ _) ht)
theorem put8_heap {w : World} {b : Nat} {t : TypeId} {y0 y1 y2 y3 y4 y5 y6 y7 : Value} (h : w.heap[b]? = some (.cells #[y0, y1, y2, y3, y4, y5, y6, y7] t (0, 0))) (x0 x1 x2 x3 x4 x5 x6 x7 : Value) :
    (put8 w b x0 x1 x2 x3 x4 x5 x6 x7).heap[b]? = some (.cells #[x0, x1, x2, x3, x4, x5, x6, x7] t (0, 0)) := by
  have h0 : (w.setCell ⟨b, 0, none⟩ x0).heap[b]? = some (.cells #[x0, y1, y2, y3, y4, y5, y6, y7] t (0, 0)) := heap_setCell_at (j := 0) h x0
  have h1 : ((w.setCell ⟨b, 0, none⟩ x0).setCell ⟨b, 1, none⟩ x1).heap[b]? = some (.cells #[x0, x1, y2, y3, y4, y5, y6, y7] t (0, 0)) := heap_setCell_at (j := 1) h0 x1
  have h2 : (((w.setCell ⟨b, 0, none⟩ x0).setCell ⟨b, 1, none⟩ x1).setCell ⟨b, 2, none⟩ x2).heap[b]? = some (.cells #[x0, x1, x2, y3, y4, y5, y6, y7] t (0, 0)) := heap_setCell_at (j := 2) h1 x2
  have h3 : ((((w.setCell ⟨b, 0, none⟩ x0).setCell ⟨b, 1, none⟩ x1).setCell ⟨b, 2, none⟩ x2).setCell ⟨b, 3, none⟩ x3).heap[b]? = some (.cells #[x0, x1, x2, x3, y4, y5, y6, y7] t (0, 0)) := heap_setCell_at (j := 3) h2 x3
  have h4 : (((((w.setCell ⟨b, 0, none⟩ x0).setCell ⟨b, 1, none⟩ x1).setCell ⟨b, 2, none⟩ x2).setCell ⟨b, 3, none⟩ x3).setCell ⟨b, 4, none⟩ x4).heap[b]? = some (.cells #[x0, x1, x2, x3, x4, y5, y6, y7] t (0, 0)) := heap_setCell_at (j := 4) h3 x4
  have h5 : ((((((w.setCell ⟨b, 0, none⟩ x0).setCell ⟨b, 1, none⟩ x1).setCell ⟨b, 2, none⟩ x2).setCell ⟨b, 3, none⟩ x3).setCell ⟨b, 4, none⟩ x4).setCell ⟨b, 5, none⟩ x5).heap[b]? = some (.cells #[x0, x1, x2, x3, x4, x5, y6, y7] t (0, 0)) := heap_setCell_at (j := 5) h4 x5
  have h6 : (((((((w.setCell ⟨b, 0, none⟩ x0).setCell ⟨b, 1, none⟩ x1).setCell ⟨b, 2, none⟩ x2).setCell ⟨b, 3, none⟩ x3).setCell ⟨b, 4, none⟩ x4).setCell ⟨b, 5, none⟩ x5).setCell ⟨b, 6, none⟩ x6).heap[b]? = some (.cells #[x0, x1, x2, x3, x4, x5, x6, y7] t (0, 0)) := heap_setCell_at (j := 6) h5 x6
  have h7 : ((((((((w.setCell ⟨b, 0, none⟩ x0).setCell ⟨b, 1, none⟩ x1).setCell ⟨b, 2, none⟩ x2).setCell ⟨b, 3, none⟩ x3).setCell ⟨b, 4, none⟩ x4).setCell ⟨b, 5, none⟩ x5).setCell ⟨b, 6, none⟩ x6).setCell ⟨b, 7, none⟩ x7).heap[b]? = some (.cells #[x0, x1, x2, x3, x4, x5, x6, x7] t (0, 0)) := heap_setCell_at (j := 7) h6 x7
  exact h7
theorem put8_size (w : World) (b : Nat) (x0 x1 x2 x3 x4 x5 x6 x7 : Value) : (put8 w b x0 x1 x2 x3 x4 x5 x6 x7).heap.size = w.heap.size := by simp [put8, World.setCell]

set_option maxHeartbeats 4000000 in
theorem all_ok {w : World} {b : Nat} {m : LogM} {S : Nat → Prop} (h60 : m.es.length ≤ 60) (h : LogAt w b m S) :
    Calls Try.prog 15 #[.pointer (some ⟨b, 0, none⟩)] w fun e w' => ∃ ao cap S', e = .returned (.slice ao m.es.length cap) ∧
      Told w w' m.es.length m.es.reverse S' (.slice ao m.es.length cap) ∧ LogAt w' b (newM m.room) S' ∧ Kept S w w' ∧ (∀ k, S' k → S k ∨ NewIn w w' k) := by
  have HLOG := Lib.hid h
  have hbl : b < w.heap.size := by obtain ⟨mb, lv, ov, h1, _⟩ := h; exact lt_of_heap h1.blk
  go_enter Try.func15, Try.ntmps15
  go_wp2_with fail
  refine (cut_ok (at_ := 0) (S := S) (Nat.zero_le _) h60 HLOG.out).mono ?_
  rintro e1 w1 ⟨ao, cap, rfl, htold, hlog, hk1⟩
  simp only [Nat.sub_zero, List.drop_zero, List.take_zero] at htold hlog ⊢
  obtain ⟨mb, lv, ov, h1, hS⟩ := hlog
  have hsz := hk1.size
  obtain ⟨c0, c1, c2, c3, c4, c5, c6, c7, hf⟩ := cells8 h1.blk
  dsimp only at c0
  have HT := Lib.hid htold
  have HK1 := Lib.hid hk1
  have H1 := Lib.hid h1
  have HS := Lib.hid hS
  clear htold hk1 h1 hS c1 c2 c3 c4 c5 c6 c7
  go_wp2_with fail
  refine (new_any m.room w1).mono ?_
  rintro e2 w2 ⟨rfl, hlog2, hk2, hsz2⟩
  obtain ⟨mb2, lv2, ov2, h2, hS2⟩ := hlog2
  have L1 := H1.out.frame hk2 (fun _ _ h => h)
  obtain ⟨c0, c1, c2, c3, c4, c5, c6, c7, hf⟩ := cells8 L1.blk
  obtain ⟨d0, d1, d2, d3, d4, d5, d6, d7, df⟩ := cells8 h2.blk
  obtain ⟨l2, lc2, hlv2, -⟩ := h2.own.rd.2.2
  obtain ⟨o2, oc2, hov2, -⟩ := h2.ord.rd.2.2
  have l1b := lt_of_heap L1.blk
  have l2b := lt_of_heap h2.blk
  have hbne : b ≠ w1.heap.size + 1 := by omega
  have HL1 := Lib.hid L1
  have H2 := Lib.hid h2
  have HS2 := Lib.hid hS2
  have HK2 := Lib.hid hk2
  have HLV := Lib.hid hlv2
  have HOV := Lib.hid hov2
  rw [hlv2] at d1
  rw [hov2] at d7
  dsimp only [newM, List.length_nil] at d0 d1 d2 d3 d4 d5 d6 d7
  clear L1 h2 hS2 hk2 hlv2 hov2
  go_wp2_with fail
  go_ret
  have KS := put8_kept w2 b (.int .i64 (clampI m.room)) (.slice l2 0 lc2) (.int .i64 0) (.int .i64 0) (.int .i64 0) (.int .i64 0) (.map (some mb2)) (.slice o2 0 oc2)
  have BH := put8_heap HL1.out.blk (.int .i64 (clampI m.room)) (.slice l2 0 lc2) (.int .i64 0) (.int .i64 0) (.int .i64 0) (.int .i64 0) (.map (some mb2)) (.slice o2 0 oc2)
  have SZ := put8_size w2 b (.int .i64 (clampI m.room)) (.slice l2 0 lc2) (.int .i64 0) (.int .i64 0) (.int .i64 0) (.int .i64 0) (.map (some mb2)) (.slice o2 0 oc2)
  have L := H2.out
  rw [HLV.out, HOV.out] at L
  have hnew : ∀ k, LogS (w1.heap.size + 1) mb2 (.slice l2 0 lc2) (.slice o2 0 oc2) k → k = w1.heap.size ∨ k = w1.heap.size + 1 := fun k hk => (HS2.out k).2 (by rw [HLV.out, HOV.out]; exact hk)
  have hmb := hnew mb2 (.inr (.inl rfl))
  have hS := HS.out
  have hTo := HT.out.2
  have hbS : S b := (hS b).2 (.inl rfl)
  refine ⟨ao, cap, LogS b mb2 (.slice l2 0 lc2) (.slice o2 0 oc2), rfl, ⟨?_, ?_⟩, ⟨mb2, .slice l2 0 lc2, .slice o2 0 oc2, ?_, fun _ => Iff.rfl⟩, ?_, ?_⟩
  · exact (HT.out.1.kept HK2.out (fun _ _ h => h)).kept KS (fun k hk e => (hTo k hk).2 (by rw [e]; exact hbS))
  · intro k hk
    obtain ⟨⟨n1, n2⟩, n3⟩ := hTo k hk
    refine ⟨⟨n1, by rw [SZ]; omega⟩, ?_⟩
    have hx : ∀ j, (j = w1.heap.size ∨ j = w1.heap.size + 1) → k ≠ j := fun j hj => by omega
    rintro (rfl | rfl | h | h)
    · exact n3 hbS
    · exact hx _ hmb rfl
    · exact hx _ (hnew k (.inr (.inr (.inl h)))) rfl
    · exact hx _ (hnew k (.inr (.inr (.inr h)))) rfl
  · have hbn : ∀ j, (j = w1.heap.size ∨ j = w1.heap.size + 1) → b ≠ j := fun j hj => by omega
    refine ⟨BH, L.own.kept KS (fun k hk e => hbn k (hnew k (.inr (.inr (.inl hk)))) e.symm), L.ord.kept KS (fun k hk e => hbn k (hnew k (.inr (.inr (.inr hk)))) e.symm), L.map.frame (KS.block mb2 L.map.lt (fun e => hbn _ hmb e.symm)), hbn _ hmb, fun e => hbn b (hnew b (.inr (.inr (.inl e)))) rfl, L.ne3, fun e => hbn b (hnew b (.inr (.inr (.inr e)))) rfl, L.ne5, L.ne6⟩
  · exact (HK1.out.trans HK2.out (fun _ h => h.elim)).trans KS (fun k e => .inl (by rw [e]; exact hbS))
  · have hn : ∀ j, (j = w1.heap.size ∨ j = w1.heap.size + 1) → NewIn w (put8 w2 b (.int .i64 (clampI m.room)) (.slice l2 0 lc2) (.int .i64 0) (.int .i64 0) (.int .i64 0) (.int .i64 0) (.map (some mb2)) (.slice o2 0 oc2)) j := fun j hj => ⟨by omega, by rw [SZ]; omega⟩
    rintro k (rfl | rfl | h | h)
    · exact .inl hbS
    · exact .inr (hn _ hmb)
    · exact .inr (hn _ (hnew k (.inr (.inr (.inl h)))))
    · exact .inr (hn _ (hnew k (.inr (.inr (.inr h)))))
end Go.Proofs.Ytokcpmeoiblpfaa
