/- Contracts of undo.New, Save, Len, and of the library's Clone and Reverse as the log calls them. -/
import Derived.Test.YtokcpmeoiblpfaaUndoMem
namespace Go.Proofs.Ytokcpmeoiblpfaa
open Go.ChangeShapes Go.WideShapes Go.ChangeAt Go.RowKit
set_option maxRecDepth 100000

theorem infoEnt : (Try.prog.info? tEnt).map (fun i => (i.zero, i.size, i.bytes)) = some (some (.agg #[.int .i64 0, .bool false, .int .i64 0, .string ⟨#[]⟩, .slice none 0 0]), 5, 64) := by kernel_rfl
theorem infoVal : (Try.prog.info? 23).map (fun i => (i.zero, i.size, i.bytes)) = some (some (.agg #[.bool false, .int .i64 0, .string ⟨#[]⟩]), 3, 32) := by kernel_rfl
theorem infoSpot : (Try.prog.info? tSpot).map (fun i => (i.zero, i.size, i.bytes)) = some (some (.agg #[.int .i64 0, .bool false, .int .i64 0, .string ⟨#[]⟩]), 4, 40) := by kernel_rfl

def clampI (r : Int) : Int := if r < 0 then 0 else if 60 < r then 60 else r
def newM (r : Int) : LogM := ⟨clampI r, [], 0, 0, 0, 0, []⟩

theorem new_any (r : Int) (w : World) :
    Calls Try.prog 9 #[.int .i64 r] w fun e w' => e = .returned (.pointer (some ⟨w.heap.size + 1, 0, none⟩)) ∧ LogAt w' (w.heap.size + 1) (newM r) (fun k => k = w.heap.size ∨ k = w.heap.size + 1) ∧ Kept (fun _ => False) w w' ∧ w'.heap.size = w.heap.size + 2 := by
  have hmm := @run_makeMap Try.prog
  have fin : ∀ x : Int, x = clampI r → LogAt ((w.alloc (.map #[] 0)).alloc (.cells #[.int .i64 x, .slice none 0 0, .int .i64 0, .int .i64 0, .int .i64 0, .int .i64 0, .map (some w.heap.size), .slice none 0 0] tLog)) (w.heap.size + 1) (newM r) (fun k => k = w.heap.size ∨ k = w.heap.size + 1) := by
    rintro x rfl
    refine ⟨w.heap.size, .slice none 0 0, .slice none 0 0, ⟨?_, Own.nil _ _ _, Own.nil _ _ _, ?_, by omega, by simp [Value.ownBlock], by simp [Value.ownBlock], by simp [Value.ownBlock], by simp [Value.ownBlock], by simp [Value.ownBlock]⟩, fun k => ?_⟩
    · have := heap_alloc_self (w.alloc (.map #[] 0)) (.cells #[.int .i64 (clampI r), .slice none 0 0, .int .i64 0, .int .i64 0, .int .i64 0, .int .i64 0, .map (some w.heap.size), .slice none 0 0] tLog)
      rw [World.size_alloc] at this
      exact this
    · exact (MapOf.made w).frame (Below.heap_alloc _ _ _ (by simp))
    · simp [LogS, Value.ownBlock, or_comm]
  by_cases h0 : r < 0
  · have e : clampI r = 0 := by unfold clampI; rw [if_pos h0]
    go_enter Try.func9, Try.ntmps9
    go_wp2
    go_ret
    exact ⟨rfl, fin _ e.symm, ((Kept.refl _ _).alloc _).alloc _, by simp⟩
  · by_cases h1 : 60 < r
    · have e : clampI r = 60 := by unfold clampI; rw [if_neg h0, if_pos h1]
      go_enter Try.func9, Try.ntmps9
      go_wp2
      go_ret
      exact ⟨rfl, fin _ e.symm, ((Kept.refl _ _).alloc _).alloc _, by simp⟩
    · have e : clampI r = r := by unfold clampI; rw [if_neg h0, if_neg h1]
      go_enter Try.func9, Try.ntmps9
      go_wp2
      go_ret
      exact ⟨rfl, fin _ e.symm, ((Kept.refl _ _).alloc _).alloc _, by simp⟩

/-- Len -/
theorem len_any {w : World} {b : Nat} {m : LogM} {S : Nat → Prop} (h : LogAt w b m S) :
    Calls Try.prog 13 #[.pointer (some ⟨b, 0, none⟩)] w fun e w' => e = .returned (.int .i64 m.es.length) ∧ Kept (fun _ => False) w w' := by
  obtain ⟨mb, lv, ov, h1, _⟩ := h
  obtain ⟨c0, c1, c2, c3, c4, c5, c6, c7, hf⟩ := cells8 h1.blk
  obtain ⟨ao, cap, hv, -⟩ := h1.own.rd.2.2
  rw [hv] at c1
  go_enter Try.func13, Try.ntmps13
  go_wp2_with fail
  go_ret
  exact ⟨rfl, Kept.refl _ _⟩

def LogM.setS (m : LogM) (n v : Int) : LogM := if n = 1 then { m with s1 := v } else if n = 2 then { m with s2 := v } else { m with s3 := v }
def LogM.getS (m : LogM) (n : Int) : Int := if n = 1 then m.s1 else if n = 2 then m.s2 else m.s3

theorem LogR.setBlk {w w' : World} {b mb : Nat} {lv ov : Value} {m m' : LogM} (h : LogR w b mb lv ov m) (hk : Kept (fun k => k = b) w w') (hb : w'.heap[b]? = some (.cells (logCells m' lv mb ov) tLog (0, 0))) (he : m'.es = m.es) (hm : m'.met = m.met) : LogR w' b mb lv ov m' := by
  refine ⟨hb, ?_, ?_, ?_, h.ne1, h.ne2, h.ne3, h.ne4, h.ne5, h.ne6⟩
  · rw [he]; exact h.own.kept hk (fun g hg e => h.ne2 (by rw [hg, e]))
  · rw [hm]; exact h.ord.kept hk (fun g hg e => h.ne4 (by rw [hg, e]))
  · rw [hm]; exact h.map.frame (hk.block mb h.map.lt (fun e => h.ne1 e.symm))

theorem save_no {w : World} {b : Nat} (n : Int) (hn : n < 1 ∨ 3 < n) :
    Calls Try.prog 11 #[.pointer (some ⟨b, 0, none⟩), .int .i64 n] w fun e w' => e = .returned (.int .i64 70) ∧ w = w' := by
  by_cases h1 : n < 1
  · go_enter Try.func11, Try.ntmps11
    go_wp2_with fail
    go_ret
    exact ⟨rfl, rfl⟩
  · have h3 : 3 < n := by omega
    go_enter Try.func11, Try.ntmps11
    go_wp2_with fail
    go_ret
    exact ⟨rfl, rfl⟩

set_option maxHeartbeats 1000000 in
theorem save_yes {w : World} {b : Nat} {m : LogM} {S : Nat → Prop} (n : Int) (hn : 1 ≤ n ∧ n ≤ 3) (hl : m.es.length ≤ 60) (h : LogAt w b m S) :
    Calls Try.prog 11 #[.pointer (some ⟨b, 0, none⟩), .int .i64 n] w fun e w' => e = .returned (.int .i64 0) ∧ LogAt w' b (m.setS n (m.es.length + 1)) S ∧ Kept (fun k => k = b) w w' ∧ w'.heap.size = w.heap.size := by
  obtain ⟨mb, lv, ov, h1, hS⟩ := h
  obtain ⟨c0, c1, c2, c3, c4, c5, c6, c7, hf⟩ := cells8 h1.blk
  obtain ⟨ao, cap, hv, -⟩ := h1.own.rd.2.2
  rw [hv] at c1
  have hl' : (m.es.length : Int) ≤ 60 := by omega
  have hc : n = 1 ∨ n = 2 ∨ n = 3 := by omega
  have hw : IntKind.i64.wrap ((m.es.length : Int) + 1) = (m.es.length : Int) + 1 := IntWalk.i64_in _ (by omega)
  have fin : ∀ (j : Nat) (x : LogM), (logCells m lv mb ov).setIfInBounds j (.int .i64 (m.es.length + 1)) = logCells x lv mb ov → x.es = m.es → x.met = m.met →
      LogAt ((w.setCell ⟨b, j, none⟩ (.int .i64 (m.es.length + 1))).drew) b x S := by
    intro j x hx he hm
    exact ⟨mb, lv, ov, h1.setBlk ((Kept.set_at _ _ _ _).drew) (by rw [← hx]; exact heap_setCell_at h1.blk _) he hm, hS⟩
  have hz : ∀ j, (w.setCell ⟨b, j, none⟩ (.int .i64 (m.es.length + 1))).drew.heap.size = w.heap.size := fun j => by simp [World.setCell]
  rcases hc with rfl | rfl | rfl
  · have F := fin 3 (m.setS 1 (m.es.length + 1)) rfl rfl rfl
    clear fin
    go_enter Try.func11, Try.ntmps11
    go_wp2_with fail
    refine wp_region_canon [(0, false, 11), (1, false, 11), (2, false, 11), (3, false, 11), (4, false, 11), (5, false, 11), (6, false, 11), (7, false, 11), (8, false, 11), (9, false, 11), (10, false, 11), (11, true, 0)] (by kernel_rfl) (by kernel_rfl) ?_
    iterate 11 (refine wpCan_read rfl rfl (fun K hK => ?_); go_simp; refine hK _ ?_; clear hK K)
    refine wpCan_eff rfl ?_
    refine wpList_plain rfl (fun K hK => ?_)
    go_simp
    refine hK _ _ ?_
    clear hK K
    refine wpList_nil ?_
    refine And.intro ?_ ?_
    · go_simp
    refine wpCan_nil ?_
    go_wp2_with fail
    go_ret
    exact ⟨rfl, F, (Kept.set_at _ _ _ _).drew, hz 3⟩
  · have F := fin 4 (m.setS 2 (m.es.length + 1)) rfl rfl rfl
    clear fin
    go_enter Try.func11, Try.ntmps11
    go_wp2_with fail
    refine wp_region_canon [(0, false, 11), (1, false, 11), (2, false, 11), (3, false, 11), (4, false, 11), (5, false, 11), (6, false, 11), (7, false, 11), (8, false, 11), (9, false, 11), (10, false, 11), (11, true, 0)] (by kernel_rfl) (by kernel_rfl) ?_
    iterate 11 (refine wpCan_read rfl rfl (fun K hK => ?_); go_simp; refine hK _ ?_; clear hK K)
    refine wpCan_eff rfl ?_
    refine wpList_plain rfl (fun K hK => ?_)
    go_simp
    refine hK _ _ ?_
    clear hK K
    refine wpList_nil ?_
    refine And.intro ?_ ?_
    · go_simp
    refine wpCan_nil ?_
    go_wp2_with fail
    go_ret
    exact ⟨rfl, F, (Kept.set_at _ _ _ _).drew, hz 4⟩
  · have F := fin 5 (m.setS 3 (m.es.length + 1)) rfl rfl rfl
    clear fin
    go_enter Try.func11, Try.ntmps11
    go_wp2_with fail
    refine wp_region_canon [(0, false, 11), (1, false, 11), (2, false, 11), (3, false, 11), (4, false, 11), (5, false, 11), (6, false, 11), (7, false, 11), (8, false, 11), (9, false, 11), (10, false, 11), (11, true, 0)] (by kernel_rfl) (by kernel_rfl) ?_
    iterate 11 (refine wpCan_read rfl rfl (fun K hK => ?_); go_simp; refine hK _ ?_; clear hK K)
    refine wpCan_eff rfl ?_
    refine wpList_plain rfl (fun K hK => ?_)
    go_simp
    refine hK _ _ ?_
    clear hK K
    refine wpList_nil ?_
    refine And.intro ?_ ?_
    · go_simp
    refine wpCan_nil ?_
    go_wp2_with fail
    go_ret
    exact ⟨rfl, F, (Kept.set_at _ _ _ _).drew, hz 5⟩
end Go.Proofs.Ytokcpmeoiblpfaa
