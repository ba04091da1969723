/- ratlinelaw07.UndoFull: the walk. -/
import Derived.Test.YtokcpmeoiblpfaaUndo11
namespace Go.Proofs.Ytokcpmeoiblpfaa
open Go.ChangeShapes Go.WideShapes Go.ChangeAt Go.RowKit
set_option maxRecDepth 100000
set_option linter.unusedSimpArgs false

set_option maxHeartbeats 8000000 in
theorem full_ok {w : World} (r : Int) (e : Ent) {k : Nat} {xs : List Value} (hrd : Rd w 3 e.was k xs) (hone : ∀ u ∈ xs, u.oneCell' = true) (hb : k * 32 ≤ 140737488355328) (hwf : e.spot.wf) :
    Calls Try.prog 4 #[.int .i64 r, .agg e.cells.toArray] w fun e' w' => e' = .returned (.bool true) ∧ Kept (fun _ => False) w w' := by
  obtain ⟨et, ek, ew⟩ := e
  have hev := hrd.oneV
  dsimp only at hrd hev
  have k0 : Kept (fun _ => False) w (w.alloc (.cells #[.int .i64 et, .bool ek.t, .int .i64 ek.n, .string ek.s, ew] 27)) := (Kept.refl _ _).alloc _
  have hB0 := heap_alloc_self w (.cells #[.int .i64 et, .bool ek.t, .int .i64 ek.n, .string ek.s, ew] 27)
  have hlt0 := lt_of_heap hB0
  have HRD := Lib.hid (hrd.kept k0 (fun _ _ h => h))
  have HONE := Lib.hid hone
  have HWF := Lib.hid hwf
  have HK0 := Lib.hid k0
  have HB0 := Lib.hid hB0
  have HLT0 := Lib.hid hlt0
  clear hrd hone hwf k0 hB0 hlt0
  unfold Ent.cells
  dsimp only
  go_enter Try.func4, Try.ntmps4
  go_wp2_with fail
  generalize w.alloc (.cells #[.int .i64 et, .bool ek.t, .int .i64 ek.n, .string ek.s, ew] 27) = w0 at *
  refine (awake_ok w0).mono ?_
  rintro e1 w1 ⟨rfl, h1⟩
  have H1 := Lib.hid h1
  clear h1
  go_wp2_with fail
  refine (new_st r H1.out).mono ?_
  rintro e2 w2 ⟨b, rfl, h2⟩
  have H2 := Lib.hid (h2.weaken (B := fun _ => False) (fun _ h => h.elim))
  clear h2 H1
  have hN : (r < 0 ∧ clampI r = 0) ∨ (60 < r ∧ clampI r = 60) ∨ ((0 ≤ r ∧ r ≤ 60) ∧ clampI r = r) := by
    unfold clampI
    by_cases h0 : r < 0
    · exact .inl ⟨h0, by rw [if_pos h0]⟩
    · by_cases h1 : 60 < r
      · exact .inr (.inl ⟨h1, by rw [if_neg h0, if_pos h1]⟩)
      · exact .inr (.inr ⟨by omega, by rw [if_neg h0, if_neg h1]⟩)
  have hcl : 0 ≤ clampI r ∧ clampI r ≤ 60 := by omega
  generalize hN' : clampI r = N at *
  rcases hN with ⟨h0, hN⟩ | ⟨h0, hN⟩ | ⟨h0, hN⟩
  all_goals
    have HN := Lib.hid hN
    clear hN
    go_wp2_with fail
    refine (save_st 2 (by omega) (by simp) H2.out).mono ?_
    rintro e3 w3 ⟨rfl, h3, -⟩
    have H3 := Lib.hid h3
    clear h3 H2
    go_wp2_with fail
    go_loopw [8] (fun i wr => ∃ (k : Nat) (es : List Ent) (met : List Spot), i = .int .i64 k ∧ (k : Int) ≤ N ∧ es.length = k ∧ met.length ≤ k ∧
      St w0 wr b (fun _ => False) (N) es (fun j => if j = 2 then 1 else 0) met) (fun i _ => 60 - (intOf i).toNat)
    case atStart => exact ⟨0, [], [], rfl, by omega, rfl, by simp, H3.out⟩
    case round =>
      obtain ⟨k, es, met, rfl, hk, hes, hmet, hst⟩ := hrel
      have B := (hst.kept0.block _ HLT0.out (fun h => h)).trans HB0.out
      obtain ⟨x0, x1, x2, x3, x4, xf⟩ := cells5 B
      have HST := Lib.hid hst
      clear hst B H3
      by_cases hlt : (k : Int) < N
      · have hlt' := hlt
        rw [HN.out] at hlt'
        go_wp2_with fail
        refine (push_st ⟨et, ek, ew⟩ (by omega) hcl.2 (HRD.out.kept HST.out.kept0 (fun _ _ h => h)) HONE.out hb HWF.out (by omega) HST.out).mono ?_
        rintro e4 w4 ⟨rfl, v4, h4, -, -⟩
        have l4 := addMet_len met ⟨et, ek⟩
        have H4 := Lib.hid (h4.weaken (B := fun _ => False) (fun _ h => h.elim))
        clear h4 x0 x1 x2 x3 x4 xf
        go_wp2_with fail
        go_roundw
        case rel => exact ⟨k + 1, _, _, by go_num, by omega, by simp [hes], by first | omega | (dsimp only; omega), H4.out⟩
        case measure => simp [intOf]; omega
      · have hlt' := hlt
        have hkN : (k : Int) = N := by omega
        have hkN' := hkN
        rw [HN.out] at hlt' hkN'
        go_wp2_with fail
        refine (full_st ⟨et, ek, ew⟩ (by omega) HST.out).mono ?_
        rintro e4 w4 ⟨rfl, h4, -⟩
        have H4 := Lib.hid h4
        clear h4 x0 x1 x2 x3 x4 xf HST
        go_wp2_with fail
        refine (len_st H4.out).mono ?_
        rintro e5 w5 ⟨rfl, h5, -⟩
        have H5 := Lib.hid h5
        clear h5 H4
        rw [hes]
        go_wp2_with fail
        refine (back_as 2 0 (L := k) (es' := []) (sv' := fun j => if j = 2 then 1 else 0) (by omega) (by omega) (by simp) (by omega) (by omega) rfl (by simp) (by funext j; by_cases h : j = 2 <;> simp [gone, h]) H5.out).mono ?_
        rintro e6 w6 ⟨a6, c6, rfl, -, h6, -⟩
        have B := (h6.kept0.block _ HLT0.out (fun h => h)).trans HB0.out
        obtain ⟨x0, x1, x2, x3, x4, xf⟩ := cells5 B
        have H6 := Lib.hid (h6.weaken (B := fun _ => False) (fun _ h => h.elim))
        clear h6 H5 B
        go_wp2_with fail
        by_cases hp : 0 < N
        · refine (push_st ⟨et, ek, ew⟩ (by simp; omega) hcl.2 (HRD.out.kept H6.out.kept0 (fun _ _ h => h)) HONE.out hb HWF.out (by omega) H6.out).mono ?_
          rintro e7 w7 ⟨rfl, v7, h7, -, -⟩
          have K7 := Lib.hid h7.kept0
          clear h7 H6 x0 x1 x2 x3 x4 xf
          rw [HN.out] at hp
          go_wp2_with fail
          all_goals
            go_ret
            exact ⟨rfl, HK0.out.trans K7.out (fun _ h => h.elim)⟩
        · first
          | (exfalso; have := HN.out; omega)
          | (refine (full_st ⟨et, ek, ew⟩ (by simp; omega) H6.out).mono ?_
             rintro e7 w7 ⟨rfl, h7, -⟩
             have K7 := Lib.hid h7.kept0
             clear h7 H6 x0 x1 x2 x3 x4 xf
             have hd : decide (0 < r) = false := decide_eq_false (by have := HN.out; omega)
             rw [HN.out] at hp
             go_wp2_with fail
             go_ret
             first
             | exact ⟨rfl, HK0.out.trans K7.out (fun _ h => h.elim)⟩
             | exact ⟨by simp [hd], HK0.out.trans K7.out (fun _ h => h.elim)⟩)
end Go.Proofs.Ytokcpmeoiblpfaa
