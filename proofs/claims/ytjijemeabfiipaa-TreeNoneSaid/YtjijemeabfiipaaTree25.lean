/- The tree: pairs of a tree that is none. -/
import Derived.Test.YtjijemeabfiipaaTree24
namespace Go.Proofs.Ytjijemeabfiipaa
open Go.ChangeShapes Go.WideShapes Go.ChangeAt Go.RowKit
set_option maxRecDepth 100000
set_option linter.unusedSimpArgs false
attribute [local go_sem] Oper.semAt_some

theorem range1_nil {Ow : World → Nat → Prop} {n₀ : Nat} {l b1 b2 : Nat} {s : Spn} {D : PH} (h1 : D b1 = some (.cells #[.pointer none] 28 (0, 0))) (h2 : D b2 = some (.cells s.cells tS (0, 0))) (W : World) (hit : ItOk n₀ Ow D W) :
    Calls Try.prog 32 #[.func (.yield l) #[] #[], .pointer (some ⟨b1, 0, none⟩), .pointer (some ⟨b2, 0, none⟩)] W fun e W' => (∃ v, e = .returned v) ∧ W = W' := by
  obtain ⟨p0, pf⟩ := cells1 (hit.le _ _ h1)
  obtain ⟨s0, s1, s2, s3, s4, s5, s6, s7, s8, s9, s10⟩ := Spn.at (s := s) (hit.le _ _ h2)
  clear hit h1 h2
  go_enter Try.func32, Try.ntmps32
  go_wp2_with (fail)
  go_end0
  exact ⟨⟨_, rfl⟩, rfl⟩
theorem range_nil {n₀ : Nat} {Ow : World → Nat → Prop} (_ : Owner n₀ Ow) {b1 b2 : Nat} {s : Spn} {D : PH} {w : World} (n : Nat)
    (h1 : D b1 = some (.cells #[.pointer none] 28 (0, 0))) (h2 : D b2 = some (.cells s.cells tS (0, 0))) (hit : ∀ W, Below w.heap.size w W → ItOk n₀ Ow D W) :
    SeqStopsK Fence.wide n Try.prog 32 #[.pointer (some ⟨b1, 0, none⟩), .pointer (some ⟨b2, 0, none⟩)] (fun x : Val × VT => #[x.1.v, .int .i64 x.2]) (KpO Ow) (fun xs => xs = []) (fun _ => False) 0 w := fun l J Jx W hW _ _ _ h0 =>
  callsIn_wide.2 ((range1_nil h1 h2 W (hit W hW)).mono (fun e W' ⟨h3, h4⟩ => ⟨h3, .inl ⟨[], rfl, h4 ▸ h0⟩⟩))

set_option maxHeartbeats 2000000 in
theorem pairs_nil {w : World} {s : Spn} :
    Calls Try.prog 13 #[.pointer none, s.v] w fun e w' => (∃ ao cap, e = .returned (.slice ao 0 cap)) ∧ Kept (fun _ => False) w w' := by
  have hk1 : Kept (fun _ => False) w (w.alloc (.cells s.cells tS)) := (Kept.refl _ _).alloc _
  have hb1 : (w.alloc (.cells s.cells tS)).heap[w.heap.size]? = some (.cells s.cells tS (0, 0)) := heap_alloc_self w _
  have HA1 := Lib.hid hk1
  have HB1 := Lib.hid hb1
  clear hk1 hb1
  dsimp only [Spn.v]
  refine (callsIn_wide (n := 6)).1 (callsIn_of_wp_marks Try.func13 rfl trivial ?_ rfl)
  simp only [Try.ntmps13, List.size_toArray, List.length_cons, List.length_nil, Nat.reduceAdd, Nat.reduceSub, Array.replicate_succ, Array.replicate_zero, List.push_toArray, List.append_toArray, List.nil_append, List.cons_append]
  refine wpIn_wide.2 ?_
  go_upto_region 2 with (fail)
  obtain ⟨wa, hwa⟩ : ∃ wa, wa = w.alloc (.cells s.cells tS) := ⟨_, rfl⟩
  rw [← hwa] at HA1 HB1
  dsimp only [Spn.cells] at hwa
  rw [← hwa]
  have hsz : w.heap.size + 1 = wa.heap.size := by rw [hwa]; simp
  rw [hsz]
  obtain ⟨W1, hW1⟩ : ∃ W1, W1 = wa.alloc (.cells #[.slice none 0 0] tPs) := ⟨_, rfl⟩
  rw [← hW1]
  have hk1 : Kept (fun _ => False) wa W1 := by rw [hW1]; exact (Kept.refl _ _).alloc _
  have hb1 : W1.heap[wa.heap.size]? = some (.cells #[.slice none 0 0] tPs (0, 0)) := by rw [hW1]; exact heap_alloc_self _ _
  have hs1 : W1.heap[w.heap.size]? = some (.cells s.cells tS (0, 0)) := (hk1.block _ (lt_of_heap HB1.out) (fun h => h)).trans HB1.out
  have HK1 := Lib.hid hk1
  have HB2 := Lib.hid hb1
  have HSP := Lib.hid hs1
  obtain ⟨s0, s1, s2, s3, s4, s5, s6, s7, s8, s9, s10⟩ := Spn.at (s := s) hs1
  have hbo : wa.heap.size ≤ wa.heap.size := Nat.le_refl _
  generalize w.heap.size = bs at HB1 HSP s0 s1 s2 s3 s4 s5 s6 s7 s8 s9 s10 ⊢
  clear hwa hW1 hk1 hb1 hs1 hsz
  have HBO := Lib.hid hbo
  revert HBO HB2
  generalize hbz : wa.heap.size = bo
  intro HB2 HBO
  have HBZ := Lib.hid hbz
  clear hbo hbz
  go_upto_region 4 with ((go_at_call 14; refine (range_ok _ s _).mono ?_; rintro e2 w2 ⟨b1, b2, rfl, hk2, -⟩; have HK2 := Lib.hid hk2; clear s0 s1 s2 s3 s4 s5 s6 s7 s8 s9 s10 hk2))
  have hs2 : w2.heap[bs]? = some (.cells s.cells tS (0, 0)) := (HK2.out.block _ (lt_of_heap HSP.out) (fun h => h)).trans HSP.out
  obtain ⟨s0, s1, s2, s3, s4, s5, s6, s7, s8, s9, s10⟩ := Spn.at (s := s) hs2
  clear hs2
  go_wp2_with ((go_at_call 14; refine (range_ok _ s _).mono ?_; rintro e3 w3 ⟨c1, c2, rfl, hk3, hc1, hc2, hn1, hn2⟩; have HK3 := Lib.hid (HK2.out.trans hk3 (fun _ h => h.elim)); have HC1 := Lib.hid hc1; have HC2 := Lib.hid hc2; have HN := Lib.hid (And.intro hn1 hn2); clear s0 s1 s2 s3 s4 s5 s6 s7 s8 s9 s10 hk3 hc1 hc2 hn1 hn2))
  have hk13 := HK1.out.trans HK3.out (fun _ h => h.elim)
  have hb3 : w3.heap[bo]? = some (.cells #[.slice none 0 0] tPs (0, 0)) := (HK3.out.block _ (lt_of_heap HB2.out) (fun h => h)).trans HB2.out
  have hbo1 := lt_of_heap HB2.out
  have hbr : BoxRow w3 bo tPs tP 4 (.slice none 0 0) 0 [] := ⟨hb3, Own.nil _ _ _, fun h => by cases h⟩
  have hnot : ∀ k, OwB bo w3 k → k = bo := fun k hk => (hbr.ow hk).elim (fun h => h) (fun h => by cases h)
  obtain ⟨E, hE1, hE2⟩ := hbr.iter
  have h12 := HN.out
  have hks2 := HK2.out.size
  refine (wpIn_wide (n := 5)).1 ?_
  refine wpIn_rangeFunc_ownH (n := 5) rfl (by omega) (gf := 32) (lb := #[.pointer (some ⟨c1, 0, none⟩), .pointer (some ⟨c2, 0, none⟩)]) rfl trivial (enters_of Try.func32 (by kernel_rfl) rfl)
    (range_nil (s := s) (D := E) (ownerB (lt_of_heap hb3)) 4 (hE1 _ _ _ _ HC1.out (fun h => by have := hnot _ h; omega)) (hE1 _ _ _ _ HC2.out (fun h => by have := hnot _ h; omega)) hE2)
    (fun h k => KpO.trans h k) (fun W l o o' hl h hc _ => KpO.put (ownerB (lt_of_heap hb3)) hl h hc) (Below.refl _ _) (fun _ => rfl)
    (Inv wa bo tPs tP 4 pcells) (fun _ _ _ => False) (Inv.ownFrom hk13.size (lt_of_heap hb3)) (fun _ _ _ _ _ h _ _ => h) (Inv.start hk13 hb3 (by have := HBZ.out; omega))
    (fun x a' W => ∃ bk, W.heap[bk]? = some (.cells #[.bool x.1.t, .int .i64 x.1.n, .string x.1.s] tV (0, 0)) ∧ a' = { tmps := #[.pointer none, s.v, undef, .pointer (some ⟨bs, 0, none⟩), .slice none 0 0, .pointer (some ⟨bo, 0, none⟩), .pointer (some ⟨bk, 0, none⟩), .int .i64 x.2, .pointer none, s.v, rngV b1 b2, .bool false, undef, .pointer none, s.v, rngV c1 c2, x.1.v, .int .i64 x.2, undef, undef, undef, undef, undef, undef, undef], defers := [] })
    (fun x a' _ W W' row ⟨bk, h1, h2⟩ hg hr => ⟨bk, box_ownFrom h1 hg hr, h2⟩) ?assign ?body ?done ?stop
  case assign =>
    rintro l pre x W K hi hK
    obtain ⟨v, hbr⟩ := hi.row
    have hal : Kept (fun _ => False) W (W.alloc (.cells #[.bool x.1.t, .int .i64 x.1.n, .string x.1.s] tV)) := (Kept.refl _ _).alloc _
    have H := Lib.hid (hK _ _ (keepsFrom_kept hal _) (KpO.of_kept (ownerB (n₀ := bo + 1) (by omega)) (lt_of_heap hbr.box) hal) (hi.frame hal) ⟨W.heap.size, heap_alloc_self _ _, rfl⟩)
    clear hK
    gi_wp2
    exact H.out
  case body =>
    rintro l pre x a' W hl hr hi hx hlt
    exact absurd hlt (Nat.not_lt_zero _)
  case done =>
    rintro D1 xs W hD rfl hi hK
    have hi2 := Inv.ownFrom hk13.size (lt_of_heap hb3) [] W (W.putObj D1 (.deferred none)) (some D1) hi (grownBy_putObj' W D1 _) (fun r e => by cases e; exact ⟨hD, _, hK, rfl⟩)
    obtain ⟨v, hbr2⟩ := hi.row
    obtain ⟨v', hbr3⟩ := hi2.row
    obtain ⟨o0, of⟩ := cells1 hbr2.box
    have hvv : v' = v := by
      have h1 := hbr3.box
      rw [World.putObj_heap_other (show bo ≠ D1 by have := lt_of_heap hb3; omega), hbr2.box] at h1
      cases h1
      rfl
    subst hvv
    obtain ⟨ao, cap, rfl, _⟩ := hbr3.own.rd.2.2
    dsimp only [List.length_nil] at o0
    have HF := Lib.hid (HA1.out.trans hi2.kept (fun _ h => h.elim))
    clear hi hi2 hbr2 hbr3 hbr
    go_wp2_with (fail)
    refine ⟨by simp, .inl ⟨_, _, rfl, run_takeDeferred hK, ?_⟩⟩
    exact ⟨_, results_tmp rfl _ _ _, ⟨ao, cap, rfl⟩, HF.out⟩
  case stop =>
    rintro D c pre W _ _ h _
    exact h.elim
end Go.Proofs.Ytjijemeabfiipaa
