/- Spans (api.Span): their cells; what lies within. -/
import Derived.Test.YtdobimafhbfkhaaGreatON4
set_option maxHeartbeats 64000000
namespace Go.Proofs.YtdobimafhbfkhaaGreat
open Go.ChangeShapes Go.WideShapes Go.ChangeAt Go.RowKit
set_option maxRecDepth 100000
set_option linter.unusedSimpArgs false
structure Spn where
 no : Bool
 hasLo : Bool
 openLo : Bool
 lo : Val
 hasHi : Bool
 openHi : Bool
 hi : Val
def Spn.cells (s : Spn) : Array Value := #[.bool s.no, .bool s.hasLo, .bool s.openLo, .bool s.lo.t, .int .i64 s.lo.n, .string s.lo.s, .bool s.hasHi, .bool s.openHi, .bool s.hi.t, .int .i64 s.hi.n, .string s.hi.s]
abbrev Spn.v (s : Spn) : Value := .agg #[.bool s.no, .bool s.hasLo, .bool s.openLo, .bool s.lo.t, .int .i64 s.lo.n, .string s.lo.s, .bool s.hasHi, .bool s.openHi, .bool s.hi.t, .int .i64 s.hi.n, .string s.hi.s]
abbrev tS : TypeId := 92
def fZ (s : Spn) (v : Val) : Bool := s.hasLo && (decide (ai v s.lo < 0) || decide (ai v s.lo = 0) && s.openLo)
def oO (s : Spn) (v : Val) : Bool := !s.hasHi || decide (ai v s.hi < 0) || decide (ai v s.hi = 0) && !s.openHi
def bD (s : Spn) (v : Val) : Bool := !s.no && !fZ s v && oO s v
theorem Spn.at {w : World} {b : Nat} {s : Spn} {t : TypeId} {fr : Nat × Nat} (h : w.heap[b]? = some (.cells s.cells t fr)) :
  w.cell? ⟨b, 0, none⟩ = some (.bool s.no) ∧ w.cell? ⟨b, 1, none⟩ = some (.bool s.hasLo) ∧ w.cell? ⟨b, 2, none⟩ = some (.bool s.openLo) ∧ w.cell? ⟨b, 3, none⟩ = some (.bool s.lo.t) ∧ w.cell? ⟨b, 4, none⟩ = some (.int .i64 s.lo.n) ∧ w.cell? ⟨b, 5, none⟩ = some (.string s.lo.s) ∧
  w.cell? ⟨b, 6, none⟩ = some (.bool s.hasHi) ∧ w.cell? ⟨b, 7, none⟩ = some (.bool s.openHi) ∧ w.cell? ⟨b, 8, none⟩ = some (.bool s.hi.t) ∧ w.cell? ⟨b, 9, none⟩ = some (.int .i64 s.hi.n) ∧ w.cell? ⟨b, 10, none⟩ = some (.string s.hi.s) := by
 refine ⟨?_, ?_, ?_, ?_, ?_, ?_, ?_, ?_, ?_, ?_, ?_⟩ <;> simp [World.cell?, h, Spn.cells]
theorem pY (s : Spn) (x : Val) : fZ s x = (s.hasLo && (decide (ai x s.lo < 0) || decide (ai x s.lo = 0) && s.openLo)) := rfl
theorem jc (s : Spn) (x : Val) : oO s x = (!s.hasHi || decide (ai x s.hi < 0) || decide (ai x s.hi = 0) && !s.openHi) := rfl
theorem gK (a b : Val) : ai a b = -1 ∨ ai a b = 0 ∨ ai a b = 1 := by
 unfold ai fU jy
 repeat' split
 all_goals simp
theorem lO (s : Spn) (x : Val) (w : World) : Calls Tryz.prog 101 #[s.v, x.v] w fun e w' => e = .returned (.bool (bD s x)) ∧ Kept (fun _ => False) w w' := by
 have hk0 : Kept (fun _ => False) w ((w.alloc (.cells s.cells tS)).alloc (.cells #[.bool x.t, .int .i64 x.n, .string x.s] 24)) := ((Kept.refl _ _).alloc _).alloc _
 have hb1 : ((w.alloc (.cells s.cells tS)).alloc (.cells #[.bool x.t, .int .i64 x.n, .string x.s] 24)).heap[w.heap.size]? = some (.cells s.cells tS (0, 0)) := (((Kept.refl (fun _ => False) (w.alloc (.cells s.cells tS))).alloc _).block _ (by simp) (fun h => h)).trans (aw w _)
 have hb2 : ((w.alloc (.cells s.cells tS)).alloc (.cells #[.bool x.t, .int .i64 x.n, .string x.s] 24)).heap[w.heap.size + 1]? = some (.cells #[.bool x.t, .int .i64 x.n, .string x.s] 24 (0, 0)) := by
  have := aw (w.alloc (.cells s.cells tS)) (.cells #[.bool x.t, .int .i64 x.n, .string x.s] 24)
  rw [World.size_alloc] at this
  exact this
 have sX := Bb hk0
 have sM := Bb hb1
 have sN := Bb hb2
 clear hk0 hb1 hb2
 dsimp only [Spn.v, Val.v]
 go_enter Tryz.func101, Tryz.ntmps101
 go_upto_region 1 with (fail)
 obtain ⟨W, hW⟩ : ∃ W, W = (w.alloc (.cells s.cells tS)).alloc (.cells #[.bool x.t, .int .i64 x.n, .string x.s] 24) := ⟨_, rfl⟩
 dsimp only [Spn.cells] at hW
 rw [← hW]
 dsimp only [Spn.cells] at sX sM sN
 rw [← hW] at sX sM sN
 generalize w.heap.size + 1 = bx at sN ⊢
 generalize w.heap.size = bs at sM ⊢
 clear hW
 obtain ⟨s0, s1, s2, s3, s4, s5, s6, s7, s8, s9, s10⟩ := Spn.at (s := s) sM.out
 obtain ⟨x0, x1, x2, xf⟩ := aS sN.out
 cases hn : s.no
 ·rw [hn] at s0
  have HN := Bb hn
  clear hn
  go_upto_region 4 with ((go_at_call 103; refine (bH x s.lo _).mono ?_; rintro e1 w1 ⟨rfl, hk1⟩; have sQ := Bb (sX.out.trans hk1 (fun _ h => h.elim)); have u8 := Bb ((hk1.block bs (av sM.out) (fun h => h)).trans sM.out); have zi := Bb ((hk1.block bx (av sN.out) (fun h => h)).trans sN.out); clear hk1 s0 s1 s2 s3 s4 s5 s6 s7 s8 s9 s10 x0 x1 x2 xf))
  obtain ⟨s0, s1, s2, s3, s4, s5, s6, s7, s8, s9, s10⟩ := Spn.at (s := s) u8.out
  obtain ⟨x0, x1, x2, xf⟩ := aS zi.out
  have hc3 := gK x s.lo
  have vJ := Bb (pY s x)
  generalize ai x s.lo = c at vJ hc3 ⊢
  cases hl : s.hasLo
  ·rw [hl] at s1
   have tn : fZ s x = false := by rw [vJ.out]; simp [*]
   have tn := Bb tn
   go_upto_region 7 with ((go_at_call 103; refine (bH x s.hi _).mono ?_; rintro e2 w2 ⟨rfl, hk2⟩; have sY := Bb (sQ.out.trans hk2 (fun _ h => h.elim)); have vP := Bb ((hk2.block bs (av u8.out) (fun h => h)).trans u8.out); clear hk2 s0 s1 s2 s3 s4 s5 s6 s7 s8 s9 s10 x0 x1 x2 xf))
   obtain ⟨s0, s1, s2, s3, s4, s5, s6, s7, s8, s9, s10⟩ := Spn.at (s := s) vP.out
   have hd3 := gK x s.hi
   have uB := Bb (jc s x)
   generalize ai x s.hi = d at uB hd3 ⊢
   cases hh : s.hasHi
   ·rw [hh] at s6
    go_wp2_with (fail)
    go_ret
    exact ⟨by unfold bD; rw [HN.out, tn.out, uB.out]; simp [*], sY.out⟩
   ·rw [hh] at s6
    rcases hd3 with rfl | rfl | rfl
    ·skip
     go_wp2_with (fail)
     go_ret
     exact ⟨by unfold bD; rw [HN.out, tn.out, uB.out]; simp [*], sY.out⟩
    ·cases ho : s.openHi
     ·rw [ho] at s7
      go_wp2_with (fail)
      go_ret
      exact ⟨by unfold bD; rw [HN.out, tn.out, uB.out]; simp [*], sY.out⟩
     ·rw [ho] at s7
      go_wp2_with (fail)
      go_ret
      exact ⟨by unfold bD; rw [HN.out, tn.out, uB.out]; simp [*], sY.out⟩
    ·skip
     go_wp2_with (fail)
     go_ret
     exact ⟨by unfold bD; rw [HN.out, tn.out, uB.out]; simp [*], sY.out⟩
  ·rw [hl] at s1
   rcases hc3 with rfl | rfl | rfl
   ·skip
    have tn : fZ s x = true := by rw [vJ.out]; simp [*]
    have tn := Bb tn
    go_wp2_with (fail)
    go_ret
    exact ⟨by unfold bD; rw [HN.out, tn.out]; simp, sQ.out⟩
   ·cases ho : s.openLo
    ·rw [ho] at s2
     have tn : fZ s x = false := by rw [vJ.out]; simp [*]
     have tn := Bb tn
     go_upto_region 7 with ((go_at_call 103; refine (bH x s.hi _).mono ?_; rintro e2 w2 ⟨rfl, hk2⟩; have sY := Bb (sQ.out.trans hk2 (fun _ h => h.elim)); have vP := Bb ((hk2.block bs (av u8.out) (fun h => h)).trans u8.out); clear hk2 s0 s1 s2 s3 s4 s5 s6 s7 s8 s9 s10 x0 x1 x2 xf))
     obtain ⟨s0, s1, s2, s3, s4, s5, s6, s7, s8, s9, s10⟩ := Spn.at (s := s) vP.out
     have hd3 := gK x s.hi
     have uB := Bb (jc s x)
     generalize ai x s.hi = d at uB hd3 ⊢
     cases hh : s.hasHi
     ·rw [hh] at s6
      go_wp2_with (fail)
      go_ret
      exact ⟨by unfold bD; rw [HN.out, tn.out, uB.out]; simp [*], sY.out⟩
     ·rw [hh] at s6
      rcases hd3 with rfl | rfl | rfl
      ·skip
       go_wp2_with (fail)
       go_ret
       exact ⟨by unfold bD; rw [HN.out, tn.out, uB.out]; simp [*], sY.out⟩
      ·cases ho : s.openHi
       ·rw [ho] at s7
        go_wp2_with (fail)
        go_ret
        exact ⟨by unfold bD; rw [HN.out, tn.out, uB.out]; simp [*], sY.out⟩
       ·rw [ho] at s7
        go_wp2_with (fail)
        go_ret
        exact ⟨by unfold bD; rw [HN.out, tn.out, uB.out]; simp [*], sY.out⟩
      ·skip
       go_wp2_with (fail)
       go_ret
       exact ⟨by unfold bD; rw [HN.out, tn.out, uB.out]; simp [*], sY.out⟩
    ·rw [ho] at s2
     have tn : fZ s x = true := by rw [vJ.out]; simp [*]
     have tn := Bb tn
     go_wp2_with (fail)
     go_ret
     exact ⟨by unfold bD; rw [HN.out, tn.out]; simp, sQ.out⟩
   ·skip
    have tn : fZ s x = false := by rw [vJ.out]; simp [*]
    have tn := Bb tn
    go_upto_region 7 with ((go_at_call 103; refine (bH x s.hi _).mono ?_; rintro e2 w2 ⟨rfl, hk2⟩; have sY := Bb (sQ.out.trans hk2 (fun _ h => h.elim)); have vP := Bb ((hk2.block bs (av u8.out) (fun h => h)).trans u8.out); clear hk2 s0 s1 s2 s3 s4 s5 s6 s7 s8 s9 s10 x0 x1 x2 xf))
    obtain ⟨s0, s1, s2, s3, s4, s5, s6, s7, s8, s9, s10⟩ := Spn.at (s := s) vP.out
    have hd3 := gK x s.hi
    have uB := Bb (jc s x)
    generalize ai x s.hi = d at uB hd3 ⊢
    cases hh : s.hasHi
    ·rw [hh] at s6
     go_wp2_with (fail)
     go_ret
     exact ⟨by unfold bD; rw [HN.out, tn.out, uB.out]; simp [*], sY.out⟩
    ·rw [hh] at s6
     rcases hd3 with rfl | rfl | rfl
     ·skip
      go_wp2_with (fail)
      go_ret
      exact ⟨by unfold bD; rw [HN.out, tn.out, uB.out]; simp [*], sY.out⟩
     ·cases ho : s.openHi
      ·rw [ho] at s7
       go_wp2_with (fail)
       go_ret
       exact ⟨by unfold bD; rw [HN.out, tn.out, uB.out]; simp [*], sY.out⟩
      ·rw [ho] at s7
       go_wp2_with (fail)
       go_ret
       exact ⟨by unfold bD; rw [HN.out, tn.out, uB.out]; simp [*], sY.out⟩
     ·skip
      go_wp2_with (fail)
      go_ret
      exact ⟨by unfold bD; rw [HN.out, tn.out, uB.out]; simp [*], sY.out⟩
 ·rw [hn] at s0
  have wt := Bb (show bD s x = false by unfold bD; rw [hn]; rfl)
  go_wp2_with (fail)
  go_ret
  exact ⟨by rw [wt.out]; rfl, sX.out⟩
end Go.Proofs.YtdobimafhbfkhaaGreat
