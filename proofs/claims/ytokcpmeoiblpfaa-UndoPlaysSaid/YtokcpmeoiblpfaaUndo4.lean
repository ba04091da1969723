/- Contract of undo.(*Log).Push. -/
import Derived.Test.YtokcpmeoiblpfaaUndo3
namespace Go.Proofs.Ytokcpmeoiblpfaa
open Go.ChangeShapes Go.WideShapes Go.ChangeAt Go.RowKit
set_option maxRecDepth 100000

def addMet (l : List Spot) (p : Spot) : List Spot := if p ∈ l then l else l ++ [p]

theorem push_full {w : World} {b : Nat} {m : LogM} {S : Nat → Prop} (e : Ent) (h : LogAt w b m S) (hr : m.room ≤ m.es.length) :
    Calls Try.prog 12 #[.pointer (some ⟨b, 0, none⟩), .agg e.cells.toArray] w fun e w' => e = .returned (.int .i64 62) ∧ LogAt w' b m S ∧ Kept (fun _ => False) w w' := by
  have hL := h
  obtain ⟨mb, lv, ov, h1, _⟩ := h
  have hbl := lt_of_heap h1.blk
  obtain ⟨c0, c1, c2, c3, c4, c5, c6, c7, hf⟩ := cells8 h1.blk
  obtain ⟨ao, cap, hv, -⟩ := h1.own.rd.2.2
  rw [hv] at c1
  have HL := Lib.hid hL
  have HH := Lib.hid h1
  clear hL h1 hv
  unfold Ent.cells
  go_enter Try.func12, Try.ntmps12
  go_wp2_with fail
  refine wp_region_canon [(0, false, 999), (1, false, 999), (2, false, 999), (3, false, 999), (4, false, 999), (5, false, 999), (6, false, 999), (7, false, 999), (8, false, 999), (9, false, 999)] (by kernel_rfl) (by kernel_rfl) ?_
  iterate 10 (refine wpCan_read rfl rfl (fun K hK => ?_); go_simp; refine hK _ ?_; clear hK K)
  refine wpCan_nil ?_
  go_wp2_with fail
  go_ret
  have hk : Kept (fun _ => False) w ((w.alloc (.cells #[.int .i64 e.t, .bool e.k.t, .int .i64 e.k.n, .string e.k.s, e.was] tEnt)).drew) := ((Kept.refl _ _).alloc _).drew
  exact ⟨rfl, HL.out.frame hk (fun _ _ h => h), hk⟩

/-- what Push leaves when it takes the entry -/
def PushPost (w : World) (b : Nat) (m : LogM) (S : Nat → Prop) (t : Int) (k : Val) (n : Nat) (xs : List Value) (w' : World) : Prop :=
  ∃ (wv : Value) (S' : Nat → Prop), LogAt w' b { m with es := m.es ++ [⟨t, k, wv⟩], met := addMet m.met ⟨t, k⟩ } S' ∧ Own w' 23 3 wv n xs ∧ Kept S w w' ∧ (∀ k, S' k → S k ∨ NewIn w w' k) ∧ (∀ g, wv.ownBlock = some g → NewIn w w' g ∧ ¬ S' g)

theorem Own.oneV {w : World} {e : TypeId} {size : Nat} {v : Value} {n : Nat} {xs : List Value} (h : Own w e size v n xs) : v.oneCell' = true := by
  rcases h.2.2 with ⟨rfl, _⟩ | ⟨g, cap, cur, rfl, _⟩ <;> rfl
theorem Rd.oneV {w : World} {size : Nat} {v : Value} {n : Nat} {xs : List Value} (h : Rd w size v n xs) : v.oneCell' = true := by
  obtain ⟨_, _, ao, cap, rfl, _⟩ := h; rfl

/-- the log behind 'l.l = append(l.l, e)' -/
theorem logR_push {w1 w2 : World} {b mb bx g cap2 : Nat} {lv ov : Value} {m : LogM} {x : Ent} (h : LogR w1 b mb lv ov m) (hk : Kept (fun k => lv.ownBlock = some k ∨ k = bx) w1 w2) (hbx : ∀ k, LogS b mb lv ov k → k ≠ bx)
    (ho : Own w2 tEnt 5 (.slice (some ⟨g, 0, none⟩) (m.es.length + 1) cap2) (m.es.length + 1) (m.es.flatMap Ent.cells ++ x.cells)) (hg : lv.ownBlock = some g ∨ w1.heap.size ≤ g) :
    LogR (w2.setCell ⟨b, 1, none⟩ (.slice (some ⟨g, 0, none⟩) (m.es.length + 1) cap2)) b mb (.slice (some ⟨g, 0, none⟩) (m.es.length + 1) cap2) ov { m with es := m.es ++ [x] } := by
  have hb : w2.heap[b]? = some (.cells (logCells m lv mb ov) tLog (0, 0)) := (hk.block b (lt_of_heap h.blk) (fun hh => hh.elim h.ne2 (hbx b (.inl rfl)))).trans h.blk
  have hs := Kept.set_at w2 b 1 (.slice (some ⟨g, 0, none⟩) (m.es.length + 1) cap2)
  have hgb : g ≠ b := fun e => by
    rcases hg with hg | hg
    · exact h.ne2 (by rw [hg, e])
    · have := lt_of_heap h.blk; omega
  refine ⟨heap_setCell_at hb _, ?_, ?_, ?_, h.ne1, ?_, ?_, h.ne4, h.ne5, ?_⟩
  · have e1 : (m.es ++ [x]).flatMap Ent.cells = m.es.flatMap Ent.cells ++ x.cells := by simp [List.flatMap_append]
    have e2 : (m.es ++ [x]).length = m.es.length + 1 := by simp
    rw [e1, e2]
    exact ho.kept hs (fun k hk e => hgb (by simp [Value.ownBlock] at hk; omega))
  · exact (h.ord.kept hk (fun k hk e => e.elim (fun e => h.ne6 k e hk) (hbx k (.inr (.inr (.inr hk)))))).kept hs (fun k hk e => h.ne4 (by rw [hk, e]))
  · refine (h.map.frame (hk.block mb h.map.lt (fun e => e.elim h.ne3 (hbx mb (.inr (.inl rfl)))))).frame ?_
    exact heap_setCell_ne _ (fun e => h.ne1 e.symm)
  · simp [Value.ownBlock]; exact hgb
  · intro e
    simp [Value.ownBlock] at e
    rcases hg with hg | hg
    · exact h.ne3 (by rw [hg, e])
    · have := h.map.lt; omega
  · intro k hk hk2
    simp [Value.ownBlock] at hk
    subst hk
    rcases hg with hg | hg
    · exact h.ne6 _ hg hk2
    · have := h.ord.lt _ hk2; omega

/-- the log behind 'l.met[at] = ..; l.order = append(l.order, at)' -/
theorem logR_met {w3 w5 : World} {b mb g cap2 : Nat} {lv ov : Value} {m : LogM} {p : Spot} (h : LogR w3 b mb lv ov m) (hk : Kept (fun k => ov.ownBlock = some k ∨ k = mb) w3 w5) (hm : MapOf w5 mb (m.met ++ [p]))
    (ho : Own w5 tSpot 4 (.slice (some ⟨g, 0, none⟩) (m.met.length + 1) cap2) (m.met.length + 1) (m.met.flatMap Spot.cells ++ p.cells)) (hg : ov.ownBlock = some g ∨ w3.heap.size ≤ g) :
    LogR (w5.setCell ⟨b, 7, none⟩ (.slice (some ⟨g, 0, none⟩) (m.met.length + 1) cap2)) b mb lv (.slice (some ⟨g, 0, none⟩) (m.met.length + 1) cap2) { m with met := m.met ++ [p] } := by
  have hb : w5.heap[b]? = some (.cells (logCells m lv mb ov) tLog (0, 0)) := (hk.block b (lt_of_heap h.blk) (fun hh => hh.elim h.ne4 h.ne1)).trans h.blk
  have hs := Kept.set_at w5 b 7 (.slice (some ⟨g, 0, none⟩) (m.met.length + 1) cap2)
  have hgb : g ≠ b := fun e => by
    rcases hg with hg | hg
    · exact h.ne4 (by rw [hg, e])
    · have := lt_of_heap h.blk; omega
  refine ⟨heap_setCell_at hb _, ?_, ?_, hm.frame (heap_setCell_ne _ (fun e => h.ne1 e.symm)), h.ne1, h.ne2, h.ne3, ?_, ?_, ?_⟩
  · exact (h.own.kept hk (fun k hk e => e.elim (h.ne6 k hk) (fun e => h.ne3 (by rw [hk, e])))).kept hs (fun k hk e => h.ne2 (by rw [hk, e]))
  · have e1 : (m.met ++ [p]).flatMap Spot.cells = m.met.flatMap Spot.cells ++ p.cells := by simp [List.flatMap_append]
    have e2 : (m.met ++ [p]).length = m.met.length + 1 := by simp
    rw [e1, e2]
    exact ho.kept hs (fun k hk e => hgb (by simp [Value.ownBlock] at hk; omega))
  · simp [Value.ownBlock]; exact hgb
  · intro e
    simp [Value.ownBlock] at e
    rcases hg with hg | hg
    · exact h.ne5 (by rw [hg, e])
    · have := h.map.lt; omega
  · intro k hk hk2
    simp [Value.ownBlock] at hk2
    subst hk2
    rcases hg with hg | hg
    · exact h.ne6 _ hk hg
    · have := h.own.lt _ hk; omega

set_option maxHeartbeats 4000000 in
theorem push_ok {w : World} {b : Nat} {m : LogM} {S : Nat → Prop} (e : Ent) {n : Nat} {xs : List Value} (h : LogAt w b m S) (hr : m.es.length < m.room) (hr6 : m.room ≤ 60) (hrd : Rd w 3 e.was n xs) (hone : ∀ u ∈ xs, u.oneCell' = true) (hb : n * 32 ≤ 140737488355328)
    (hwf : e.spot.wf) (hmet : m.met.length ≤ 1000) :
    Calls Try.prog 12 #[.pointer (some ⟨b, 0, none⟩), .agg e.cells.toArray] w fun e' w' => e' = .returned (.int .i64 0) ∧ PushPost w b m S e.t e.k n xs w' := by
  obtain ⟨et, ek, ew⟩ := e
  obtain ⟨mb, lv, ov, h1, hS⟩ := h
  have hbl := lt_of_heap h1.blk
  obtain ⟨c0, c1, c2, c3, c4, c5, c6, c7, hf⟩ := cells8 h1.blk
  obtain ⟨ao, cap, hv, -⟩ := h1.own.rd.2.2
  have hev := hrd.oneV
  have HH := Lib.hid h1
  have HRD := Lib.hid hrd
  have HONE := Lib.hid hone
  have HS := Lib.hid hS
  have HWF := Lib.hid hwf
  have HV := Lib.hid hv
  rw [hv] at c1
  clear h1 hrd hone hS hwf hv hev
  unfold Ent.cells
  dsimp only at *
  go_enter Try.func12, Try.ntmps12
  go_wp2_with fail
  refine wp_region_canon [(0, false, 999), (1, false, 999), (2, false, 999), (3, false, 999), (4, false, 999), (5, false, 999), (6, false, 999), (7, false, 999), (8, false, 999), (9, false, 999)] (by kernel_rfl) (by kernel_rfl) ?_
  iterate 10 (refine wpCan_read rfl rfl (fun K hK => ?_); go_simp; refine hK _ ?_; clear hK K)
  refine wpCan_nil ?_
  go_wp2_with fail
  have hk0 : Kept (fun _ => False) w (w.alloc (.cells #[.int .i64 et, .bool ek.t, .int .i64 ek.n, .string ek.s, ew] 27)).drew := ((Kept.refl _ _).alloc _).drew
  refine (cloneRow (HRD.out.kept hk0 (fun _ _ h => h)) HONE.out hb).mono ?_
  rintro e1 w1 ⟨wao, wcap, rfl, hwv, hk1, hnew1⟩
  have K1 : Kept (fun _ => False) w w1 := hk0.trans hk1 (fun _ h => h.elim)
  have hbx : w.heap.size < w1.heap.size := by have := hk1.size; simp at this; omega
  have hb1 : b < w1.heap.size := by omega
  have hne : b ≠ w.heap.size := by omega
  have hbox : w1.heap[w.heap.size]? = some (.cells #[.int .i64 et, .bool ek.t, .int .i64 ek.n, .string ek.s, ew] 27 (0, 0)) := (hk1.block _ (by simp) (fun h => h)).trans (heap_alloc_self w _)
  have L1 : LogR w1 b mb lv ov m := HH.out.frame K1 (fun _ _ h => h)
  obtain ⟨x0, x1, x2, x3, x4, xf⟩ := cells5 hbox
  obtain ⟨d0, d1, d2, d3, d4, d5, d6, d7, df⟩ := cells8 L1.blk
  have hwo := hwv.oneV
  rw [HV.out] at d1
  have HWV := Lib.hid hwv
  have HN1 := Lib.hid hnew1
  have HK1 := Lib.hid K1
  have HBOX := Lib.hid hbox
  have HL1 := Lib.hid L1
  clear hk0 hk1 hwv hnew1 K1 hbox L1 c0 c1 c2 c3 c4 c5 c6 c7 hf
  go_wp2_with fail
  refine wp_region_canon [(0, false, 10), (1, false, 7), (2, false, 7), (3, false, 7), (4, false, 7), (5, false, 6), (6, true, 0), (7, true, 0), (8, false, 10), (9, false, 10), (10, true, 0)] (by kernel_rfl) (by kernel_rfl) ?_
  iterate 6 (refine wpCan_read rfl rfl (fun K hK => ?_); go_simp; refine hK _ ?_; clear hK K)
  refine wpCan_eff rfl ?_
  refine wpList_plain rfl (fun K hK => ?_)
  go_simp
  refine hK _ _ ?_
  clear hK K
  refine wpList_nil ?_
  refine And.intro ?_ ?_
  · go_simp
  refine wpCan_eff rfl ?_
  have KX : Kept (fun k => k = w.heap.size) w1 (((w1.setCell ⟨w.heap.size, 4, none⟩ (.slice wao n wcap)).alloc (.cells #[.int .i64 et, .bool ek.t, .int .i64 ek.n, .string ek.s, .slice wao n wcap] 27)).drew) := ((Kept.set_at w1 _ 4 _).alloc _).drew
  have OWN := HL1.out.own.kept KX (fun g hg e => by have := HH.out.own.lt g hg; omega)
  have NB : (((w1.setCell ⟨w.heap.size, 4, none⟩ (.slice wao n wcap)).alloc (.cells #[.int .i64 et, .bool ek.t, .int .i64 ek.n, .string ek.s, .slice wao n wcap] 27)).drew).heap[w1.heap.size]? = some (.cells #[.int .i64 et, .bool ek.t, .int .i64 ek.n, .string ek.s, .slice wao n wcap] 27 (0, 0)) := by
    have := heap_alloc_self (w1.setCell ⟨w.heap.size, 4, none⟩ (.slice wao n wcap)) (.cells #[.int .i64 et, .bool ek.t, .int .i64 ek.n, .string ek.s, .slice wao n wcap] 27)
    rw [size_setCell] at this
    exact this
  obtain ⟨i0, hi, hz0, hz1, hz2⟩ := info_parts infoEnt
  rw [HV.out] at OWN
  have hL : m.es.length + 1 ≤ 60 := by omega
  refine wpList_append_Own _ rfl _ _ 31 rfl tEnt i0 _ 5 64 Try.underlying31 hi hz0 hz1 hz2 rfl _ m.es.length _ rfl OWN ⟨w1.heap.size, 0, none⟩ 1 1 [.int .i64 et, .bool ek.t, .int .i64 ek.n, .string ek.s, .slice wao n wcap] rfl rfl (news_of_heap NB) ?one (by omega) (by unfold maxLen; omega) (by omega) ?_
  case one => intro u hu; simp at hu; rcases hu with rfl | rfl | rfl | rfl | rfl <;> rfl
  intro g2 cap2 w2 hown2 hk2 hg2
  rw [← HV.out] at hk2 hg2
  have hsX : (((w1.setCell ⟨w.heap.size, 4, none⟩ (.slice wao n wcap)).alloc (.cells #[.int .i64 et, .bool ek.t, .int .i64 ek.n, .string ek.s, .slice wao n wcap] 27)).drew).heap.size = w1.heap.size + 1 := by simp
  rw [hsX] at hg2
  have K2 : Kept (fun k => lv.ownBlock = some k ∨ k = w.heap.size) w1 w2 := (KX.mono (fun _ _ h => .inr h)).trans hk2 (fun k h => .inl (.inl h))
  have hg2' : lv.ownBlock = some g2 ∨ w1.heap.size ≤ g2 := hg2.imp (fun h => h.1) (fun h => by omega)
  have hbxS : ∀ k, LogS b mb lv ov k → k ≠ w.heap.size := fun k hk => by have := HH.out.lt k hk; omega
  have L3 := logR_push (x := ⟨et, ek, .slice wao n wcap⟩) HL1.out K2 hbxS hown2 hg2'
  have hb2 : w2.heap[b]? = some (.cells (logCells m lv mb ov) tLog (0, 0)) := (K2.block b hb1 (fun hh => hh.elim HL1.out.ne2 (hbxS b (.inl rfl)))).trans HL1.out.blk
  have hbox2 : w2.heap[w.heap.size]? = some (.cells #[.int .i64 et, .bool ek.t, .int .i64 ek.n, .string ek.s, .slice wao n wcap] 27 (0, 0)) := by
    rw [hk2.block w.heap.size (by rw [hsX]; omega) (fun e => by have := HH.out.own.lt _ e; omega)]
    have := heap_setCell_at (j := 4) HBOX.out (.slice wao n wcap)
    exact heap_alloc_lt this
  have hs2 : w1.heap.size < w2.heap.size := by have := hk2.size; rw [hsX] at this; omega
  obtain ⟨y0, y1, y2, y3, y4, y5, y6, y7, yf⟩ := cells8 hb2
  have hgb2 : g2 ≠ b := fun e => by have := L3.ne2; rw [e] at this; exact this rfl
  have WV : Own (w2.setCell ⟨b, 1, none⟩ (.slice (some ⟨g2, 0, none⟩) (m.es.length + 1) cap2)) 23 3 (.slice wao n wcap) n xs := by
    have hwb : ∀ k, (Value.slice wao n wcap).ownBlock = some k → w.heap.size < k ∧ k < w1.heap.size := fun k hk => by have := HN1.out k hk; unfold NewIn at this; simp at this; omega
    refine (HWV.out.kept K2 (fun k hk e => ?_)).kept (Kept.set_at w2 b 1 _) (fun k hk e => ?_)
    · have := hwb k hk
      rcases e with e | e
      · have := HH.out.own.lt k e; omega
      · omega
    · have := hwb k hk; omega
  have KK : Kept S w (w2.setCell ⟨b, 1, none⟩ (.slice (some ⟨g2, 0, none⟩) (m.es.length + 1) cap2)) :=
    ((HK1.out.mono (fun _ _ h => h.elim)).trans K2 (fun k hk => hk.elim (fun e => .inl ((HS.out k).2 (.inr (.inr (.inl e))))) (fun e => .inr (by omega)))).trans (Kept.set_at w2 b 1 _) (fun k e => .inl ((HS.out k).2 (.inl e)))
  have BX3 : (w2.setCell ⟨b, 1, none⟩ (.slice (some ⟨g2, 0, none⟩) (m.es.length + 1) cap2)).heap[w.heap.size]? = some (.cells #[.int .i64 et, .bool ek.t, .int .i64 ek.n, .string ek.s, .slice wao n wcap] 27 (0, 0)) :=
    (heap_setCell_ne _ (fun e => hne e.symm)).trans hbox2
  have SZ3 : w1.heap.size < (w2.setCell ⟨b, 1, none⟩ (.slice (some ⟨g2, 0, none⟩) (m.es.length + 1) cap2)).heap.size := by rw [size_setCell]; exact hs2
  have G2 : g2 < (w2.setCell ⟨b, 1, none⟩ (.slice (some ⟨g2, 0, none⟩) (m.es.length + 1) cap2)).heap.size := by rw [size_setCell]; exact hown2.lt g2 rfl
  have HL3 := Lib.hid L3
  have HWV3 := Lib.hid WV
  have HKK := Lib.hid KK
  have HBX3 := Lib.hid BX3
  have HG2 := Lib.hid hg2'
  clear L3 WV KK BX3 KX OWN NB hown2 hk2 hg2 hg2' hsX K2 hi hz0 hz1 hz2 hbox2 hb2 x0 x1 x2 x3 x4 xf d0 d1 d2 d3 d4 d5 d6 d7 df
  refine wpList_nil ?_
  refine And.intro ?_ ?_
  · go_simp
  iterate 2 (refine wpCan_read rfl rfl (fun K hK => ?_); go_simp; refine hK _ ?_; clear hK K)
  refine wpCan_eff rfl ?_
  refine wpList_plain rfl (fun K hK => ?_)
  go_simp
  refine hK _ _ ?_
  clear hK K
  refine wpList_nil ?_
  refine And.intro ?_ ?_
  · go_simp
  refine wpCan_nil ?_
  generalize (w2.setCell ⟨b, 1, none⟩ (.slice (some ⟨g2, 0, none⟩) (m.es.length + 1) cap2)) = w3 at *
  have L3 := HL3.out
  have hb3 := L3.blk
  unfold logCells at hb3
  dsimp only at hb3
  have hbl3 := lt_of_heap hb3
  obtain ⟨x0, x1, x2, x3, x4, xf⟩ := cells5 HBX3.out
  obtain ⟨oao, ocap, hov, -⟩ := L3.ord.rd.2.2
  dsimp only at hov
  have HOV := Lib.hid hov
  have HB3 := Lib.hid hb3
  obtain ⟨d0, d1, d2, d3, d4, d5, d6, d7, df⟩ := cells8 hb3
  rw [hov] at d7
  clear hov hb3 L3 y0 y1 y2 y3 y4 y5 y6 y7 yf
  have hbx3 : w.heap.size < w3.heap.size := by omega
  obtain ⟨c, hlook⟩ := (HL3.out.map.frame (w' := (w3.alloc (.cells #[.int .i64 et, .bool ek.t, .int .i64 ek.n, .string ek.s] 63)).drew) (Below.heap_alloc _ _ _ HL3.out.map.lt)).look ⟨et, ek⟩ HWF.out
  dsimp only at hlook
  by_cases hin : (⟨et, ek⟩ : Spot) ∈ m.met
  · rw [decide_eq_true hin] at hlook
    unfold Spot.cells Val.cells at hlook
    dsimp only at hlook
    have HIN := Lib.hid hin
    clear hin
    go_wp2_with fail
    refine wp_region_canon [(0, false, 999), (1, false, 999), (2, false, 999), (3, false, 999), (4, false, 999), (5, false, 999), (6, false, 999), (7, false, 999), (8, false, 999), (9, false, 999), (10, false, 999)] (by kernel_rfl) (by kernel_rfl) ?_
    iterate 11 (refine wpCan_read rfl rfl (fun K hK => ?_); go_simp; refine hK _ ?_; clear hK K)
    refine wpCan_nil ?_
    go_wp2_with fail
    go_ret
    have KW : Kept (fun _ => False) w3 ((w3.alloc (.cells #[.int .i64 et, .bool ek.t, .int .i64 ek.n, .string ek.s] 63)).drew) := ((Kept.refl _ _).alloc _).drew
    have hS := HS.out
    have hlt := HH.out.lt
    have hsz : ((w3.alloc (.cells #[.int .i64 et, .bool ek.t, .int .i64 ek.n, .string ek.s] 63)).drew).heap.size = w3.heap.size + 1 := by simp
    have hmm : addMet m.met ⟨et, ek⟩ = m.met := by unfold addMet; rw [if_pos HIN.out]
    refine ⟨rfl, .slice wao n wcap, _, ⟨mb, _, ov, by rw [hmm]; exact HL3.out.frame KW (fun _ _ h => h), fun _ => Iff.rfl⟩, HWV3.out.kept KW (fun _ _ h => h), HKK.out.trans KW (fun _ h => h.elim), ?_, ?_⟩
    · rintro k (rfl | rfl | hk | hk)
      · exact .inl ((hS _).2 (.inl rfl))
      · exact .inl ((hS _).2 (.inr (.inl rfl)))
      · simp [Value.ownBlock] at hk
        subst hk
        rcases HG2.out with h | h
        · exact .inl ((hS _).2 (.inr (.inr (.inl h))))
        · exact .inr ⟨by omega, by omega⟩
      · exact .inl ((hS _).2 (.inr (.inr (.inr hk))))
    · intro k hk
      have hn := HN1.out k hk
      unfold NewIn at hn
      simp at hn
      refine ⟨⟨by omega, by omega⟩, ?_⟩
      rintro (rfl | rfl | hk2 | hk2)
      · have := hlt _ (.inl rfl); omega
      · have := hlt _ (.inr (.inl rfl)); omega
      · simp [Value.ownBlock] at hk2
        subst hk2
        rcases HG2.out with h | h
        · have := hlt _ (.inr (.inr (.inl h))); omega
        · omega
      · have := hlt _ (.inr (.inr (.inr hk2))); omega
  · rw [decide_eq_false hin] at hlook
    unfold Spot.cells Val.cells at hlook
    dsimp only at hlook
    have HIN := Lib.hid hin
    clear hin
    go_wp2_with fail
    refine wp_region_canon [(0, false, 999), (1, false, 999), (2, false, 999), (3, false, 999), (4, false, 999), (5, false, 999), (6, false, 999), (7, false, 999), (8, false, 999), (9, false, 999), (10, false, 999)] (by kernel_rfl) (by kernel_rfl) ?_
    iterate 11 (refine wpCan_read rfl rfl (fun K hK => ?_); go_simp; refine hK _ ?_; clear hK K)
    refine wpCan_nil ?_
    go_wp2_with fail
    refine wp_region_canon [(0, false, 10), (1, false, 10), (2, false, 10), (3, false, 10), (4, false, 10), (5, false, 10), (6, false, 10), (7, false, 10), (8, false, 10), (9, false, 10), (10, true, 0)] (by kernel_rfl) (by kernel_rfl) ?_
    iterate 10 (refine wpCan_read rfl rfl (fun K hK => ?_); go_simp; refine hK _ ?_; clear hK K)
    refine wpCan_eff rfl ?_
    have KW : Kept (fun _ => False) w3 ((w3.alloc (.cells #[.int .i64 et, .bool ek.t, .int .i64 ek.n, .string ek.s] 63)).drew.drew) := ((Kept.refl _ _).alloc _).drew.drew
    refine wpList_MapOf_put rfl _ _ _ rfl (HL3.out.map.frame (KW.block _ HL3.out.map.lt (fun h => h))) ⟨et, ek⟩ HWF.out (m.met.length : Int) (WalkArith.wf_i64 (by omega)) (by show m.met.length < maxLen; unfold maxLen; omega) rfl rfl rfl ?_
    intro w4 hmap4 hk4
    have K4 : Kept (fun k => k = mb) w3 w4 := (KW.mono (fun _ _ h => h.elim)).trans hk4 (fun _ h => .inl h)
    have hb4 := (K4.block b hbl3 (fun e => HL3.out.ne1 e)).trans HB3.out
    have hsp4 : w4.heap[w3.heap.size]? = some (.cells #[.int .i64 et, .bool ek.t, .int .i64 ek.n, .string ek.s] 63 (0, 0)) := by
      rw [hk4.block _ (by simp) (fun e => by have := HL3.out.map.lt; omega)]
      exact heap_alloc_self w3 _
    have hs4 : w3.heap.size < w4.heap.size := lt_of_heap hsp4
    have hbne : b ≠ w3.heap.size := by omega
    have hsp4' := hsp4
    have hb4' := hb4
    rw [HOV.out] at hb4
    obtain ⟨e0, e1, e2, e3, e4, e5, e6, e7, ef⟩ := cells8 hb4
    obtain ⟨z0, z1, z2, z3, zf⟩ := cells4 hsp4
    have HM4 := Lib.hid hmap4
    have HK4 := Lib.hid K4
    have HSP := Lib.hid hsp4'
    have HB4 := Lib.hid hb4'
    clear hmap4 K4 hk4 hb4 hsp4 hsp4' hb4' KW hlook d0 d1 d2 d3 d4 d5 d6 d7 df x0 x1 x2 x3 x4 xf
    have hbl4 : b < w4.heap.size := by omega
    refine wpList_nil ?_
    refine And.intro ?_ ?_
    · go_simp
    refine wpCan_nil ?_
    go_wp2_with fail
    refine wp_region_canon [(0, false, 10), (1, false, 7), (2, false, 7), (3, false, 7), (4, false, 7), (5, false, 6), (6, true, 0), (7, true, 0), (8, false, 10), (9, false, 10), (10, true, 0)] (by kernel_rfl) (by kernel_rfl) ?_
    iterate 6 (refine wpCan_read rfl rfl (fun K hK => ?_); go_simp; refine hK _ ?_; clear hK K)
    refine wpCan_eff rfl ?_
    refine wpList_plain rfl (fun K hK => ?_)
    go_simp
    refine hK _ _ ?_
    clear hK K
    refine wpList_nil ?_
    refine And.intro ?_ ?_
    · go_simp
    refine wpCan_eff rfl ?_
    have KX : Kept (fun _ => False) w4 ((w4.alloc (.cells #[.int .i64 et, .bool ek.t, .int .i64 ek.n, .string ek.s] 63)).drew) := ((Kept.refl _ _).alloc _).drew
    have OWN := (HL3.out.ord.kept HK4.out (fun g hg e => HL3.out.ne5 (by rw [hg, e]))).kept KX (fun _ _ h => h)
    dsimp only at OWN
    rw [HOV.out] at OWN
    have NB : ((w4.alloc (.cells #[.int .i64 et, .bool ek.t, .int .i64 ek.n, .string ek.s] 63)).drew).heap[w4.heap.size]? = some (.cells #[.int .i64 et, .bool ek.t, .int .i64 ek.n, .string ek.s] 63 (0, 0)) := heap_alloc_self w4 _
    obtain ⟨i0, hi, hz0, hz1, hz2⟩ := info_parts infoSpot
    refine wpList_append_Own _ rfl _ _ 57 rfl tSpot i0 _ 4 40 Try.underlying57 hi hz0 hz1 hz2 rfl _ m.met.length _ rfl OWN ⟨w4.heap.size, 0, none⟩ 1 1 [.int .i64 et, .bool ek.t, .int .i64 ek.n, .string ek.s] rfl rfl (news_of_heap NB) ?two (by omega) (by unfold maxLen; omega) (by omega) ?_
    case two => intro u hu; simp at hu; rcases hu with rfl | rfl | rfl | rfl <;> rfl
    intro g5 cap5 w5 hown5 hk5 hg5
    rw [← HOV.out] at hk5 hg5
    have hsX : ((w4.alloc (.cells #[.int .i64 et, .bool ek.t, .int .i64 ek.n, .string ek.s] 63)).drew).heap.size = w4.heap.size + 1 := by simp
    rw [hsX] at hg5
    have hk45 : Kept (fun k => ov.ownBlock = some k ∨ k = mb) w4 w5 := (KX.mono (fun _ _ h => h.elim)).trans hk5 (fun k h => .inl (.inl h))
    have K5 : Kept (fun k => ov.ownBlock = some k ∨ k = mb) w3 w5 := (HK4.out.mono (fun _ _ h => .inr h)).trans hk45 (fun k h => .inl h)
    have hg5' : ov.ownBlock = some g5 ∨ w3.heap.size ≤ g5 := hg5.imp (fun h => h.1) (fun h => by omega)
    have hm5 : MapOf w5 mb (m.met ++ [⟨et, ek⟩]) := by
      have l4 := HM4.out.lt
      refine HM4.out.frame ?_
      rw [hk5.block mb (by rw [hsX]; omega) (fun e => HL3.out.ne5 e)]
      exact KX.block mb l4 (fun h => h)
    have L5 := logR_met (p := ⟨et, ek⟩) HL3.out K5 hm5 hown5 hg5'
    have hb5 : w5.heap[b]? = some (.cells (logCells { m with es := m.es ++ [⟨et, ek, .slice wao n wcap⟩] } (.slice (some ⟨g2, 0, none⟩) (m.es.length + 1) cap2) mb ov) tLog (0, 0)) := (K5.block b hbl3 (fun hh => hh.elim HL3.out.ne4 HL3.out.ne1)).trans HL3.out.blk
    have hs5 : w4.heap.size < w5.heap.size := by have := hk5.size; rw [hsX] at this; omega
    obtain ⟨y0, y1, y2, y3, y4, y5, y6, y7, yf⟩ := cells8 hb5
    have HL5 := Lib.hid L5
    have HK5 := Lib.hid K5
    have HG5 := Lib.hid hg5'
    clear L5 K5 hg5' hg5 hm5 hk45 hk5 hown5 KX OWN NB hsX hb5 e0 e1 e2 e3 e4 e5 e6 e7 ef z0 z1 z2 z3 zf hi hz0 hz1 hz2
    refine wpList_nil ?_
    refine And.intro ?_ ?_
    · go_simp
    iterate 2 (refine wpCan_read rfl rfl (fun K hK => ?_); go_simp; refine hK _ ?_; clear hK K)
    refine wpCan_eff rfl ?_
    refine wpList_plain rfl (fun K hK => ?_)
    go_simp
    refine hK _ _ ?_
    clear hK K
    refine wpList_nil ?_
    refine And.intro ?_ ?_
    · go_simp
    refine wpCan_nil ?_
    go_wp2_with fail
    go_ret
    have hS := HS.out
    have hlt := HH.out.lt
    have hmm : addMet m.met ⟨et, ek⟩ = m.met ++ [⟨et, ek⟩] := by unfold addMet; rw [if_neg HIN.out]
    have KW : Kept S w3 (w5.setCell ⟨b, 7, none⟩ (.slice (some ⟨g5, 0, none⟩) (m.met.length + 1) cap5)) :=
      (HK5.out.mono (fun k _ h => h.elim (fun h => (hS k).2 (.inr (.inr (.inr h)))) (fun h => (hS k).2 (.inr (.inl h))))).trans (Kept.set_at w5 b 7 _) (fun k e => .inl ((hS k).2 (.inl e)))
    have wvb : ∀ k, (Value.slice wao n wcap).ownBlock = some k → w.heap.size < k ∧ k < w1.heap.size := fun k hk => by have := HN1.out k hk; unfold NewIn at this; simp at this; omega
    have szw : w3.heap.size < (w5.setCell ⟨b, 7, none⟩ (.slice (some ⟨g5, 0, none⟩) (m.met.length + 1) cap5)).heap.size := by rw [size_setCell]; omega
    have hg5l : g5 < (w5.setCell ⟨b, 7, none⟩ (.slice (some ⟨g5, 0, none⟩) (m.met.length + 1) cap5)).heap.size := HL5.out.ord.lt g5 rfl
    refine ⟨rfl, .slice wao n wcap, _, ⟨mb, _, _, by rw [hmm]; exact HL5.out, fun _ => Iff.rfl⟩, HWV3.out.kept KW (fun k hk e => ?_), HKK.out.trans KW (fun _ h => .inl h), ?_, ?_⟩
    · have := wvb k hk
      have := hlt k ((hS k).1 e)
      omega
    · rintro k (rfl | rfl | hk | hk)
      · exact .inl ((hS _).2 (.inl rfl))
      · exact .inl ((hS _).2 (.inr (.inl rfl)))
      · simp [Value.ownBlock] at hk
        subst hk
        rcases HG2.out with h | h
        · exact .inl ((hS _).2 (.inr (.inr (.inl h))))
        · exact .inr ⟨by omega, by omega⟩
      · simp [Value.ownBlock] at hk
        subst hk
        rcases HG5.out with h | h
        · exact .inl ((hS _).2 (.inr (.inr (.inr h))))
        · exact .inr ⟨by omega, hg5l⟩
    · intro k hk
      have hn := wvb k hk
      refine ⟨⟨by omega, by omega⟩, ?_⟩
      rintro (rfl | rfl | hk2 | hk2)
      · have := hlt _ (.inl rfl); omega
      · have := hlt _ (.inr (.inl rfl)); omega
      · simp [Value.ownBlock] at hk2
        subst hk2
        rcases HG2.out with h | h
        · have := hlt _ (.inr (.inr (.inl h))); omega
        · omega
      · simp [Value.ownBlock] at hk2
        subst hk2
        rcases HG5.out with h | h
        · have := hlt _ (.inr (.inr (.inr h))); omega
        · omega
end Go.Proofs.Ytokcpmeoiblpfaa
