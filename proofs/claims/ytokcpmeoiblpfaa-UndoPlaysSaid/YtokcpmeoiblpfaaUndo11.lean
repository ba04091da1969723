/- ratlinelaw07.awake: the document's example. -/
import Derived.Test.YtokcpmeoiblpfaaUndo10
namespace Go.Proofs.Ytokcpmeoiblpfaa
open Go.ChangeShapes Go.WideShapes Go.ChangeAt Go.RowKit
set_option maxRecDepth 100000

theorem zero_wf (t : Int) (h : (Lit.int .i64 t).wf = true) : (⟨t, ⟨false, 0, ⟨#[]⟩⟩⟩ : Spot).wf := ⟨h, by show (Lit.int .i64 0).wf = true; decide, by show (0 : Nat) ≤ maxLen; omega⟩

set_option maxHeartbeats 4000000 in
theorem awake_ok (w : World) : Calls Try.prog 8 #[] w fun e w' => e = .returned (.bool true) ∧ Kept (fun _ => False) w w' := by
  go_enter Try.func8, Try.ntmps8
  go_wp2_with fail
  refine (new_st 9 (Kept.refl _ w)).mono ?_
  rintro e1 w1 ⟨b, rfl, h1⟩
  have H1 := Lib.hid (h1.weaken (B := fun _ => False) (fun _ h => h.elim))
  clear h1
  go_wp2_with fail
  refine (push_st ⟨1, ⟨false, 0, ⟨#[]⟩⟩, .slice none 0 0⟩ (by simp [clampI]) (by simp [clampI]) (Rd.nil _ _) (by simp) (by omega) (zero_wf _ (by decide)) (by simp) H1.out).mono ?_
  rintro e2 w2 ⟨rfl, v2, h2, -, -⟩
  have l2 := addMet_len [] ⟨1, ⟨false, 0, ⟨#[]⟩⟩⟩
  generalize addMet [] ⟨1, ⟨false, 0, ⟨#[]⟩⟩⟩ = m2 at *
  have H2 := Lib.hid (h2.weaken (B := fun _ => False) (fun _ h => h.elim))
  clear h2 H1
  go_wp2_with fail
  refine (save_st 1 (by omega) (by simp) H2.out).mono ?_
  rintro e3 w3 ⟨rfl, h3, -⟩
  have H3 := Lib.hid h3
  clear h3 H2
  go_wp2_with fail
  refine (push_st ⟨2, ⟨false, 0, ⟨#[]⟩⟩, .slice none 0 0⟩ (by simp [clampI]) (by simp [clampI]) (Rd.nil _ _) (by simp) (by omega) (zero_wf _ (by decide)) (by simp at l2; omega) H3.out).mono ?_
  rintro e4 w4 ⟨rfl, v4, h4, -, -⟩
  have l4 := addMet_len m2 ⟨2, ⟨false, 0, ⟨#[]⟩⟩⟩
  generalize addMet m2 ⟨2, ⟨false, 0, ⟨#[]⟩⟩⟩ = m4 at *
  have H4 := Lib.hid (h4.weaken (B := fun _ => False) (fun _ h => h.elim))
  clear h4 H3
  go_wp2_with fail
  refine (push_st ⟨3, ⟨false, 0, ⟨#[]⟩⟩, .slice none 0 0⟩ (by simp [clampI]) (by simp [clampI]) (Rd.nil _ _) (by simp) (by omega) (zero_wf _ (by decide)) (by simp at l2; omega) H4.out).mono ?_
  rintro e5 w5 ⟨rfl, v5, h5, -, -⟩
  have l5 := addMet_len m4 ⟨3, ⟨false, 0, ⟨#[]⟩⟩⟩
  generalize addMet m4 ⟨3, ⟨false, 0, ⟨#[]⟩⟩⟩ = m5 at *
  have H5 := Lib.hid (h5.weaken (B := fun _ => False) (fun _ h => h.elim))
  clear h5 H4
  go_wp2_with fail
  refine (save_st 2 (by omega) (by simp) H5.out).mono ?_
  rintro e6 w6 ⟨rfl, h6, -⟩
  have H6 := Lib.hid h6
  clear h6 H5
  go_wp2_with fail
  refine (back_as 1 1 (L := 2) (R := [⟨3, ⟨false, 0, ⟨#[]⟩⟩, v5⟩, ⟨2, ⟨false, 0, ⟨#[]⟩⟩, v4⟩]) (es' := [⟨1, ⟨false, 0, ⟨#[]⟩⟩, v2⟩]) (by simp) (by omega) (by simp) (by simp) (by simp) (by simp) (by simp) rfl H6.out).mono ?_
  rintro e7 w7 ⟨a7, c7, rfl, o7, h7, -⟩
  have H7 := Lib.hid h7
  have O7 := Lib.hid o7
  clear h7 H6 o7
  go_wp2_with fail
  refine (backno_st 2 (.inr (.inr (by simp [gone]))) H7.out).mono ?_
  rintro e8 w8 ⟨rfl, rfl⟩
  go_wp2_with fail
  refine (back_as 1 1 (L := 0) (R := []) (es' := [⟨1, ⟨false, 0, ⟨#[]⟩⟩, v2⟩]) (by simp) (by omega) (by simp [gone]) (by simp) (by simp) (by simp) (by simp) rfl H7.out).mono ?_
  rintro e9 w9 ⟨a9, c9, rfl, o9, h9, k9⟩
  have O7 := Lib.hid (O7.out.kept k9 (fun k hk h => h.2 (.inr hk)))
  have H9 := Lib.hid h9
  clear h9 H7 k9 o9
  go_wp2_with fail
  refine (all_as (L := 1) (R := [⟨1, ⟨false, 0, ⟨#[]⟩⟩, v2⟩]) (by simp) (by simp) (by simp) rfl H9.out).mono ?_
  rintro e10 w10 ⟨a10, c10, rfl, o10, h10, k10⟩
  have O7 := O7.out.kept k10 (fun k hk h => h.2 (.inl (.inr hk)))
  have K := Lib.hid (h10.kept0)
  clear h10 H9 k10
  obtain ⟨g7, cc7, e7, -⟩ := O7.form (by omega)
  obtain ⟨g10, cc10, e10, -⟩ := o10.form (by omega)
  cases e7
  cases e10
  have x7 := O7.cells 0 (.int .i64 3) rfl
  have x10 := o10.cells 0 (.int .i64 1) rfl
  clear O7 o10
  go_wp2_with fail
  go_ret
  exact ⟨rfl, K.out⟩
end Go.Proofs.Ytokcpmeoiblpfaa
