/- ratlinelaw07.UndoSaves: the walk. -/
import Derived.Test.YtokcpmeoiblpfaaUndo11
namespace Go.Proofs.Ytokcpmeoiblpfaa
open Go.ChangeShapes Go.WideShapes Go.ChangeAt Go.RowKit
set_option maxRecDepth 100000
set_option linter.unusedSimpArgs false

set_option maxHeartbeats 8000000 in
theorem saves_ok {w : World} (n m : Int) (e : Ent) {k : Nat} {xs : List Value} (hrd : Rd w 3 e.was k xs) (hone : ∀ u ∈ xs, u.oneCell' = true) (hb : k * 32 ≤ 140737488355328) (hwf : e.spot.wf) :
    Calls Try.prog 3 #[.int .i64 n, .int .i64 m, .agg e.cells.toArray] w fun e' w' => e' = .returned (.bool true) ∧ Kept (fun _ => False) w w' := by
  obtain ⟨et, ek, ew⟩ := e
  have hev := hrd.oneV
  dsimp only at hrd hev
  have k0 : Kept (fun _ => False) w (w.alloc (.cells #[.int .i64 et, .bool ek.t, .int .i64 ek.n, .string ek.s, ew] 27)) := (Kept.refl _ _).alloc _
  have hB0 := heap_alloc_self w (.cells #[.int .i64 et, .bool ek.t, .int .i64 ek.n, .string ek.s, ew] 27)
  have hlt0 := lt_of_heap hB0
  have HRD := Lib.hid (hrd.kept k0 (fun _ _ h => h))
  have HONE := Lib.hid hone
  have HWF := Lib.hid hwf
  have HK0 := Lib.hid k0
  have HB0 := Lib.hid hB0
  have HLT0 := Lib.hid hlt0
  clear hrd hone hwf k0 hB0 hlt0
  unfold Ent.cells
  dsimp only
  go_enter Try.func3, Try.ntmps3
  go_wp2_with fail
  generalize w.alloc (.cells #[.int .i64 et, .bool ek.t, .int .i64 ek.n, .string ek.s, ew] 27) = w0 at *
  refine (awake_ok w0).mono ?_
  rintro e1 w1 ⟨rfl, h1⟩
  have H1 := Lib.hid h1
  clear h1
  go_wp2_with fail
  refine (new_st 10 H1.out).mono ?_
  rintro e2 w2 ⟨b, rfl, h2⟩
  have H2 := Lib.hid (h2.weaken (B := fun _ => False) (fun _ h => h.elim))
  clear h2 H1
  go_wp2_with fail
  by_cases hn : n < 1 ∨ 3 < n
  · refine (backno_st n (hn.elim .inl (fun h => .inr (.inl h))) H2.out).mono ?_
    rintro e3 w3 ⟨rfl, rfl⟩
    go_wp2_with fail
    refine (save_no n hn).mono ?_
    rintro e4 w4 ⟨rfl, rfl⟩
    rcases hn with hn | hn
    · go_wp2_with fail
      go_ret
      exact ⟨rfl, HK0.out.trans H2.out.kept0 (fun _ h => h.elim)⟩
    · have hn1 : ¬ n < 1 := by omega
      go_wp2_with fail
      go_ret
      exact ⟨rfl, HK0.out.trans H2.out.kept0 (fun _ h => h.elim)⟩
  · have hn1 : ¬ n < 1 := by omega
    have hn3 : ¬ 3 < n := by omega
    refine (backno_st n (.inr (.inr rfl)) H2.out).mono ?_
    rintro e3 w3 ⟨rfl, rfl⟩
    go_wp2_with fail
    refine (save_st n (by omega) (by simp) H2.out).mono ?_
    rintro e4 w4 ⟨rfl, h4, -⟩
    have H4 := Lib.hid h4
    clear h4 H2 hn
    by_cases hm : m < 1
    · go_wp2_with fail
      go_ret
      exact ⟨rfl, HK0.out.trans H4.out.kept0 (fun _ h => h.elim)⟩
    · by_cases hm3 : 3 < m
      · go_wp2_with fail
        go_ret
        exact ⟨rfl, HK0.out.trans H4.out.kept0 (fun _ h => h.elim)⟩
      · by_cases hmn : m = n
        · subst hmn
          go_wp2_with fail
          go_ret
          exact ⟨rfl, HK0.out.trans H4.out.kept0 (fun _ h => h.elim)⟩
        · have hnm : ¬ n = m := fun h => hmn h.symm
          have hbe : (m == n) = false := by simpa using hmn
          go_wp2_with fail
          refine (save_st m (by omega) (by simp) H4.out).mono ?_
          rintro e5 w5 ⟨rfl, h5, -⟩
          have B5 := (h5.kept0.block _ HLT0.out (fun h => h)).trans HB0.out
          obtain ⟨x0, x1, x2, x3, x4, xf⟩ := cells5 B5
          have H5 := Lib.hid h5
          clear h5 H4 B5
          go_wp2_with fail
          refine (push_st ⟨et, ek, ew⟩ (by simp [clampI]) (by simp [clampI]) (HRD.out.kept H5.out.kept0 (fun _ _ h => h)) HONE.out hb HWF.out (by simp) H5.out).mono ?_
          rintro e6 w6 ⟨rfl, v6, h6, -, -⟩
          have l6 := addMet_len [] ⟨et, ek⟩
          dsimp only at h6
          generalize addMet [] ⟨et, ek⟩ = m6 at *
          have H6 := Lib.hid (h6.weaken (B := fun _ => False) (fun _ h => h.elim))
          clear h6 H5 x0 x1 x2 x3 x4 xf
          go_wp2_with fail
          refine (back_as n 0 (L := 1) (R := [⟨et, ek, v6⟩]) (es' := []) (sv' := fun k => if k = m then 1 else if k = n then 1 else 0) (by simp) (by omega) (by simp [hnm]) (by simp) (by simp) (by simp) (by simp) (by
            funext k; by_cases h1 : k = m <;> by_cases h2 : k = n <;> simp [gone, h1, h2, hmn, hnm]) H6.out).mono ?_
          rintro e7 w7 ⟨a7, c7, rfl, -, h7, -⟩
          have H7 := Lib.hid (h7.weaken (B := fun _ => False) (fun _ h => h.elim))
          clear h7 H6
          go_wp2_with fail
          refine (back_as m 0 (L := 0) (R := []) (es' := []) (sv' := fun k => if k = m then 1 else if k = n then 1 else 0) (by simp) (by omega) (by simp) (by simp) (by simp) (by simp) (by simp) (by
            funext k; by_cases h1 : k = m <;> by_cases h2 : k = n <;> simp [gone, h1, h2, hmn, hnm]) H7.out).mono ?_
          rintro e8 w8 ⟨a8, c8, rfl, -, h8, -⟩
          have B8 := (h8.kept0.block _ HLT0.out (fun h => h)).trans HB0.out
          obtain ⟨x0, x1, x2, x3, x4, xf⟩ := cells5 B8
          have H8 := Lib.hid (h8.weaken (B := fun _ => False) (fun _ h => h.elim))
          clear h8 H7 B8
          go_wp2_with fail
          refine (push_st ⟨et, ek, ew⟩ (by simp [clampI]) (by simp [clampI]) (HRD.out.kept H8.out.kept0 (fun _ _ h => h)) HONE.out hb HWF.out (by simp at l6; omega) H8.out).mono ?_
          rintro e9 w9 ⟨rfl, v9, h9, -, -⟩
          have l9 := addMet_len m6 ⟨et, ek⟩
          dsimp only at h9
          generalize addMet m6 ⟨et, ek⟩ = m9 at *
          have H9 := Lib.hid (h9.weaken (B := fun _ => False) (fun _ h => h.elim))
          clear h9 H8 x0 x1 x2 x3 x4 xf
          go_wp2_with fail
          refine (save_st m (by omega) (by simp) H9.out).mono ?_
          rintro e10 w10 ⟨rfl, h10, -⟩
          have B10 := (h10.kept0.block _ HLT0.out (fun h => h)).trans HB0.out
          obtain ⟨x0, x1, x2, x3, x4, xf⟩ := cells5 B10
          have H10 := Lib.hid h10
          clear h10 H9 B10
          go_wp2_with fail
          refine (push_st ⟨et, ek, ew⟩ (by simp [clampI]) (by simp [clampI]) (HRD.out.kept H10.out.kept0 (fun _ _ h => h)) HONE.out hb HWF.out (by simp at l6; omega) H10.out).mono ?_
          rintro e11 w11 ⟨rfl, v11, h11, -, -⟩
          have H11 := Lib.hid (h11.weaken (B := fun _ => False) (fun _ h => h.elim))
          clear h11 H10 x0 x1 x2 x3 x4 xf
          go_wp2_with fail
          refine (back_as n 0 (L := 2) (R := [⟨et, ek, v11⟩, ⟨et, ek, v9⟩]) (es' := []) (sv' := fun k => if k = m then 0 else if k = n then 1 else 0) (by simp) (by omega) (by simp [hnm]) (by simp) (by simp) (by simp) (by simp) (by
            funext k; by_cases h1 : k = m <;> by_cases h2 : k = n <;> simp [gone, h1, h2, hmn, hnm]) H11.out).mono ?_
          rintro e12 w12 ⟨a12, c12, rfl, -, h12, -⟩
          have H12 := Lib.hid (h12.weaken (B := fun _ => False) (fun _ h => h.elim))
          clear h12 H11
          go_wp2_with fail
          refine (backno_st m (.inr (.inr (by simp))) H12.out).mono ?_
          rintro e13 w13 ⟨rfl, rfl⟩
          go_wp2_with fail
          go_ret
          exact ⟨rfl, HK0.out.trans H12.out.kept0 (fun _ h => h.elim)⟩
end Go.Proofs.Ytokcpmeoiblpfaa
