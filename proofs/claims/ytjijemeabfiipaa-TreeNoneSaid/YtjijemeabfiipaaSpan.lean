/- Spans (api.Span): their cells; what lies within. -/
import Derived.Test.YtjijemeabfiipaaSearch
namespace Go.Proofs.Ytjijemeabfiipaa
open Go.ChangeShapes Go.WideShapes Go.ChangeAt Go.RowKit
set_option maxRecDepth 100000
set_option linter.unusedSimpArgs false

structure Spn where
  no : Bool
  hasLo : Bool
  openLo : Bool
  lo : Val
  hasHi : Bool
  openHi : Bool
  hi : Val
def Spn.cells (s : Spn) : Array Value := #[.bool s.no, .bool s.hasLo, .bool s.openLo, .bool s.lo.t, .int .i64 s.lo.n, .string s.lo.s, .bool s.hasHi, .bool s.openHi, .bool s.hi.t, .int .i64 s.hi.n, .string s.hi.s]
abbrev Spn.v (s : Spn) : Value := .agg #[.bool s.no, .bool s.hasLo, .bool s.openLo, .bool s.lo.t, .int .i64 s.lo.n, .string s.lo.s, .bool s.hasHi, .bool s.openHi, .bool s.hi.t, .int .i64 s.hi.n, .string s.hi.s]
abbrev tS : TypeId := 26
def spanLo (s : Spn) (v : Val) : Bool := s.hasLo && (decide (valCmp v s.lo < 0) || decide (valCmp v s.lo = 0) && s.openLo)
def spanHi (s : Spn) (v : Val) : Bool := !s.hasHi || decide (valCmp v s.hi < 0) || decide (valCmp v s.hi = 0) && !s.openHi
def spanIn (s : Spn) (v : Val) : Bool := !s.no && !spanLo s v && spanHi s v
theorem Spn.at {w : World} {b : Nat} {s : Spn} {t : TypeId} {fr : Nat × Nat} (h : w.heap[b]? = some (.cells s.cells t fr)) :
    w.cell? ⟨b, 0, none⟩ = some (.bool s.no) ∧ w.cell? ⟨b, 1, none⟩ = some (.bool s.hasLo) ∧ w.cell? ⟨b, 2, none⟩ = some (.bool s.openLo) ∧ w.cell? ⟨b, 3, none⟩ = some (.bool s.lo.t) ∧ w.cell? ⟨b, 4, none⟩ = some (.int .i64 s.lo.n) ∧ w.cell? ⟨b, 5, none⟩ = some (.string s.lo.s) ∧
    w.cell? ⟨b, 6, none⟩ = some (.bool s.hasHi) ∧ w.cell? ⟨b, 7, none⟩ = some (.bool s.openHi) ∧ w.cell? ⟨b, 8, none⟩ = some (.bool s.hi.t) ∧ w.cell? ⟨b, 9, none⟩ = some (.int .i64 s.hi.n) ∧ w.cell? ⟨b, 10, none⟩ = some (.string s.hi.s) := by
  refine ⟨?_, ?_, ?_, ?_, ?_, ?_, ?_, ?_, ?_, ?_, ?_⟩ <;> simp [World.cell?, h, Spn.cells]
theorem spanLo_eq (s : Spn) (x : Val) : spanLo s x = (s.hasLo && (decide (valCmp x s.lo < 0) || decide (valCmp x s.lo = 0) && s.openLo)) := rfl
theorem spanHi_eq (s : Spn) (x : Val) : spanHi s x = (!s.hasHi || decide (valCmp x s.hi < 0) || decide (valCmp x s.hi = 0) && !s.openHi) := rfl
theorem cmp_three (a b : Val) : valCmp a b = -1 ∨ valCmp a b = 0 ∨ valCmp a b = 1 := by
  unfold valCmp cmpS cmpI
  repeat' split
  all_goals simp


set_option maxHeartbeats 8000000 in
theorem within_ok (s : Spn) (x : Val) (w : World) : Calls Try.prog 47 #[s.v, x.v] w fun e w' => e = .returned (.bool (spanIn s x)) ∧ Kept (fun _ => False) w w' := by
  have hk0 : Kept (fun _ => False) w ((w.alloc (.cells s.cells tS)).alloc (.cells #[.bool x.t, .int .i64 x.n, .string x.s] 24)) := ((Kept.refl _ _).alloc _).alloc _
  have hb1 : ((w.alloc (.cells s.cells tS)).alloc (.cells #[.bool x.t, .int .i64 x.n, .string x.s] 24)).heap[w.heap.size]? = some (.cells s.cells tS (0, 0)) := (((Kept.refl (fun _ => False) (w.alloc (.cells s.cells tS))).alloc _).block _ (by simp) (fun h => h)).trans (heap_alloc_self w _)
  have hb2 : ((w.alloc (.cells s.cells tS)).alloc (.cells #[.bool x.t, .int .i64 x.n, .string x.s] 24)).heap[w.heap.size + 1]? = some (.cells #[.bool x.t, .int .i64 x.n, .string x.s] 24 (0, 0)) := by
    have := heap_alloc_self (w.alloc (.cells s.cells tS)) (.cells #[.bool x.t, .int .i64 x.n, .string x.s] 24)
    rw [World.size_alloc] at this
    exact this
  have HK0 := Lib.hid hk0
  have HB1 := Lib.hid hb1
  have HB2 := Lib.hid hb2
  clear hk0 hb1 hb2
  dsimp only [Spn.v, Val.v]
  go_enter Try.func47, Try.ntmps47
  go_upto_region 1 with (fail)
  obtain ⟨W, hW⟩ : ∃ W, W = (w.alloc (.cells s.cells tS)).alloc (.cells #[.bool x.t, .int .i64 x.n, .string x.s] 24) := ⟨_, rfl⟩
  dsimp only [Spn.cells] at hW
  rw [← hW]
  dsimp only [Spn.cells] at HK0 HB1 HB2
  rw [← hW] at HK0 HB1 HB2
  generalize w.heap.size + 1 = bx at HB2 ⊢
  generalize w.heap.size = bs at HB1 ⊢
  clear hW
  obtain ⟨s0, s1, s2, s3, s4, s5, s6, s7, s8, s9, s10⟩ := Spn.at (s := s) HB1.out
  obtain ⟨x0, x1, x2, xf⟩ := cells3 HB2.out
  cases hn : s.no
  · rw [hn] at s0
    have HN := Lib.hid hn
    clear hn
    go_upto_region 4 with ((go_at_call 41; refine (compare_ok x s.lo _).mono ?_; rintro e1 w1 ⟨rfl, hk1⟩; have HK1 := Lib.hid (HK0.out.trans hk1 (fun _ h => h.elim)); have HB11 := Lib.hid ((hk1.block bs (lt_of_heap HB1.out) (fun h => h)).trans HB1.out); have HB21 := Lib.hid ((hk1.block bx (lt_of_heap HB2.out) (fun h => h)).trans HB2.out); clear hk1 s0 s1 s2 s3 s4 s5 s6 s7 s8 s9 s10 x0 x1 x2 xf))
    obtain ⟨s0, s1, s2, s3, s4, s5, s6, s7, s8, s9, s10⟩ := Spn.at (s := s) HB11.out
    obtain ⟨x0, x1, x2, xf⟩ := cells3 HB21.out
    have hc3 := cmp_three x s.lo
    have HLO := Lib.hid (spanLo_eq s x)
    generalize valCmp x s.lo = c at HLO hc3 ⊢
    cases hl : s.hasLo
    · rw [hl] at s1
      have HLF : spanLo s x = false := by rw [HLO.out]; simp [*]
      have HLF := Lib.hid HLF
      go_upto_region 7 with ((go_at_call 41; refine (compare_ok x s.hi _).mono ?_; rintro e2 w2 ⟨rfl, hk2⟩; have HK2 := Lib.hid (HK1.out.trans hk2 (fun _ h => h.elim)); have HB12 := Lib.hid ((hk2.block bs (lt_of_heap HB11.out) (fun h => h)).trans HB11.out); clear hk2 s0 s1 s2 s3 s4 s5 s6 s7 s8 s9 s10 x0 x1 x2 xf))
      obtain ⟨s0, s1, s2, s3, s4, s5, s6, s7, s8, s9, s10⟩ := Spn.at (s := s) HB12.out
      have hd3 := cmp_three x s.hi
      have HHI := Lib.hid (spanHi_eq s x)
      generalize valCmp x s.hi = d at HHI hd3 ⊢
      cases hh : s.hasHi
      · rw [hh] at s6
        go_wp2_with (fail)
        go_ret
        exact ⟨by unfold spanIn; rw [HN.out, HLF.out, HHI.out]; simp [*], HK2.out⟩
      · rw [hh] at s6
        rcases hd3 with rfl | rfl | rfl
        · skip
          go_wp2_with (fail)
          go_ret
          exact ⟨by unfold spanIn; rw [HN.out, HLF.out, HHI.out]; simp [*], HK2.out⟩
        · cases ho : s.openHi
          · rw [ho] at s7
            go_wp2_with (fail)
            go_ret
            exact ⟨by unfold spanIn; rw [HN.out, HLF.out, HHI.out]; simp [*], HK2.out⟩
          · rw [ho] at s7
            go_wp2_with (fail)
            go_ret
            exact ⟨by unfold spanIn; rw [HN.out, HLF.out, HHI.out]; simp [*], HK2.out⟩
        · skip
          go_wp2_with (fail)
          go_ret
          exact ⟨by unfold spanIn; rw [HN.out, HLF.out, HHI.out]; simp [*], HK2.out⟩
    · rw [hl] at s1
      rcases hc3 with rfl | rfl | rfl
      · skip
        have HLF : spanLo s x = true := by rw [HLO.out]; simp [*]
        have HLF := Lib.hid HLF
        go_wp2_with (fail)
        go_ret
        exact ⟨by unfold spanIn; rw [HN.out, HLF.out]; simp, HK1.out⟩
      · cases ho : s.openLo
        · rw [ho] at s2
          have HLF : spanLo s x = false := by rw [HLO.out]; simp [*]
          have HLF := Lib.hid HLF
          go_upto_region 7 with ((go_at_call 41; refine (compare_ok x s.hi _).mono ?_; rintro e2 w2 ⟨rfl, hk2⟩; have HK2 := Lib.hid (HK1.out.trans hk2 (fun _ h => h.elim)); have HB12 := Lib.hid ((hk2.block bs (lt_of_heap HB11.out) (fun h => h)).trans HB11.out); clear hk2 s0 s1 s2 s3 s4 s5 s6 s7 s8 s9 s10 x0 x1 x2 xf))
          obtain ⟨s0, s1, s2, s3, s4, s5, s6, s7, s8, s9, s10⟩ := Spn.at (s := s) HB12.out
          have hd3 := cmp_three x s.hi
          have HHI := Lib.hid (spanHi_eq s x)
          generalize valCmp x s.hi = d at HHI hd3 ⊢
          cases hh : s.hasHi
          · rw [hh] at s6
            go_wp2_with (fail)
            go_ret
            exact ⟨by unfold spanIn; rw [HN.out, HLF.out, HHI.out]; simp [*], HK2.out⟩
          · rw [hh] at s6
            rcases hd3 with rfl | rfl | rfl
            · skip
              go_wp2_with (fail)
              go_ret
              exact ⟨by unfold spanIn; rw [HN.out, HLF.out, HHI.out]; simp [*], HK2.out⟩
            · cases ho : s.openHi
              · rw [ho] at s7
                go_wp2_with (fail)
                go_ret
                exact ⟨by unfold spanIn; rw [HN.out, HLF.out, HHI.out]; simp [*], HK2.out⟩
              · rw [ho] at s7
                go_wp2_with (fail)
                go_ret
                exact ⟨by unfold spanIn; rw [HN.out, HLF.out, HHI.out]; simp [*], HK2.out⟩
            · skip
              go_wp2_with (fail)
              go_ret
              exact ⟨by unfold spanIn; rw [HN.out, HLF.out, HHI.out]; simp [*], HK2.out⟩
        · rw [ho] at s2
          have HLF : spanLo s x = true := by rw [HLO.out]; simp [*]
          have HLF := Lib.hid HLF
          go_wp2_with (fail)
          go_ret
          exact ⟨by unfold spanIn; rw [HN.out, HLF.out]; simp, HK1.out⟩
      · skip
        have HLF : spanLo s x = false := by rw [HLO.out]; simp [*]
        have HLF := Lib.hid HLF
        go_upto_region 7 with ((go_at_call 41; refine (compare_ok x s.hi _).mono ?_; rintro e2 w2 ⟨rfl, hk2⟩; have HK2 := Lib.hid (HK1.out.trans hk2 (fun _ h => h.elim)); have HB12 := Lib.hid ((hk2.block bs (lt_of_heap HB11.out) (fun h => h)).trans HB11.out); clear hk2 s0 s1 s2 s3 s4 s5 s6 s7 s8 s9 s10 x0 x1 x2 xf))
        obtain ⟨s0, s1, s2, s3, s4, s5, s6, s7, s8, s9, s10⟩ := Spn.at (s := s) HB12.out
        have hd3 := cmp_three x s.hi
        have HHI := Lib.hid (spanHi_eq s x)
        generalize valCmp x s.hi = d at HHI hd3 ⊢
        cases hh : s.hasHi
        · rw [hh] at s6
          go_wp2_with (fail)
          go_ret
          exact ⟨by unfold spanIn; rw [HN.out, HLF.out, HHI.out]; simp [*], HK2.out⟩
        · rw [hh] at s6
          rcases hd3 with rfl | rfl | rfl
          · skip
            go_wp2_with (fail)
            go_ret
            exact ⟨by unfold spanIn; rw [HN.out, HLF.out, HHI.out]; simp [*], HK2.out⟩
          · cases ho : s.openHi
            · rw [ho] at s7
              go_wp2_with (fail)
              go_ret
              exact ⟨by unfold spanIn; rw [HN.out, HLF.out, HHI.out]; simp [*], HK2.out⟩
            · rw [ho] at s7
              go_wp2_with (fail)
              go_ret
              exact ⟨by unfold spanIn; rw [HN.out, HLF.out, HHI.out]; simp [*], HK2.out⟩
          · skip
            go_wp2_with (fail)
            go_ret
            exact ⟨by unfold spanIn; rw [HN.out, HLF.out, HHI.out]; simp [*], HK2.out⟩
  · rw [hn] at s0
    have HIN := Lib.hid (show spanIn s x = false by unfold spanIn; rw [hn]; rfl)
    go_wp2_with (fail)
    go_ret
    exact ⟨by rw [HIN.out]; rfl, HK0.out⟩
end Go.Proofs.Ytjijemeabfiipaa
