/- Contracts of the library's Clone as the log calls it (rows; entries), and of row.Clone. -/
import Derived.Test.YtokcpmeoiblpfaaUndo1
namespace Go.Proofs.Ytokcpmeoiblpfaa
open Go.ChangeShapes Go.WideShapes Go.ChangeAt Go.RowKit
set_option maxRecDepth 100000

set_option maxHeartbeats 1000000 in
theorem cloneRow0 {w : World} {v : Value} {n : Nat} {xs : List Value} (hrd : Rd w 3 v n xs) (hone : ∀ u ∈ xs, u.oneCell' = true) (hb : n * 32 ≤ 140737488355328) :
    Calls Try.prog 28 #[v] w fun e w' => ∃ ao cap, e = .returned (.slice ao n cap) ∧ Own w' 23 3 (.slice ao n cap) n xs ∧ Kept (fun _ => False) w w' ∧ (∀ g, (Value.slice ao n cap).ownBlock = some g → NewIn w w' g) := by
  obtain ⟨i0, hi, hz0, hz1, hz2⟩ := info_parts infoVal
  have hm := hrd.2.1
  obtain ⟨ao, cap, rfl, _, _, hnone, hcase⟩ := hrd.2.2
  cases ao with
  | none =>
    have h0 : n = 0 := by rcases hcase with h | ⟨g, o, h, _⟩; exact h; cases h
    subst h0
    have hx : xs = [] := List.eq_nil_of_length_eq_zero (by simpa using hrd.1)
    subst hx
    clear hcase hnone hrd hz0 hz1 hz2 hi hb
    go_enter Try.func28, Try.ntmps28
    go_wp2_with fail
    go_ret
    exact ⟨_, _, rfl, Own.nil _ _ _, Kept.refl _ _, fun g hg => by cases hg⟩
  | some a =>
    have hrd' := Lib.hid hrd
    have HZ := Lib.hid hz0
    have HZ1 := Lib.hid hz1
    have HZ2 := Lib.hid hz2
    have HI := Lib.hid hi
    clear hcase hnone hrd hz0 hz1 hz2 hi
    have hown : Own (w.alloc (.cells #[] 23)) 23 3 (.slice (some ⟨w.heap.size, 0, none⟩) 0 0) 0 [] := ⟨by simp, by simp, .inr ⟨w.heap.size, 0, #[], rfl, heap_alloc_self w _, Nat.le_refl _, Nat.zero_le _, by simp, rfl⟩⟩
    have hrd2 : Rd (w.alloc (.cells #[] 23)) 3 (.slice (some a) n cap) n xs := hrd'.out.kept ((Kept.refl (fun _ => False) _).alloc _) (fun _ _ h => h)
    have HO := Lib.hid hown
    have HR := Lib.hid hrd2
    clear hown hrd2
    go_enter Try.func28, Try.ntmps28
    go_wp2_with (at_builtin; refine wpList_append_Rd _ rfl _ _ 25 rfl 23 i0 _ 3 32 Try.underlying25 HI.out HZ.out HZ1.out HZ2.out rfl _ 0 [] rfl HO.out _ n xs rfl HR.out hone (by omega) (by omega) ?_; intro v' w' h1 h2 h3 h4 h5; have H1 := Lib.hid h1; have H2 := Lib.hid h2; have H3 := Lib.hid h3; clear h1 h2 h3 h4 h5)
    go_ret
    have h1 := H1.out
    rw [Nat.zero_add, List.nil_append] at h1
    have hk : Kept (fun _ => False) w w' := ((Kept.refl (fun _ => False) w).alloc _).trans H2.out (fun k hk => .inr (Nat.le_of_eq (Option.some.inj hk)))
    obtain ⟨ao', cap', rfl, -⟩ := h1.rd.2.2
    refine ⟨_, _, rfl, h1, hk, fun g hg => ⟨?_, h1.lt g hg⟩⟩
    rcases H3.out with h | ⟨h, _⟩
    · rw [hg] at h; exact Nat.le_of_eq (Option.some.inj h).symm
    · rw [hg] at h; have := Option.some.inj h; rw [World.size_alloc] at this; omega

set_option maxHeartbeats 1000000 in
theorem cloneEnts {w : World} {v : Value} {n : Nat} {xs : List Value} (hrd : Rd w 5 v n xs) (hone : ∀ u ∈ xs, u.oneCell' = true) (hb : n * 64 ≤ 140737488355328) :
    Calls Try.prog 26 #[v] w fun e w' => ∃ ao cap, e = .returned (.slice ao n cap) ∧ Own w' 27 5 (.slice ao n cap) n xs ∧ Kept (fun _ => False) w w' ∧ (∀ g, (Value.slice ao n cap).ownBlock = some g → NewIn w w' g) := by
  obtain ⟨i0, hi, hz0, hz1, hz2⟩ := info_parts infoEnt
  have hm := hrd.2.1
  obtain ⟨ao, cap, rfl, _, _, hnone, hcase⟩ := hrd.2.2
  cases ao with
  | none =>
    have h0 : n = 0 := by rcases hcase with h | ⟨g, o, h, _⟩; exact h; cases h
    subst h0
    have hx : xs = [] := List.eq_nil_of_length_eq_zero (by simpa using hrd.1)
    subst hx
    clear hcase hnone hrd hz0 hz1 hz2 hi hb
    go_enter Try.func26, Try.ntmps26
    go_wp2_with fail
    go_ret
    exact ⟨_, _, rfl, Own.nil _ _ _, Kept.refl _ _, fun g hg => by cases hg⟩
  | some a =>
    have hrd' := Lib.hid hrd
    have HZ := Lib.hid hz0
    have HZ1 := Lib.hid hz1
    have HZ2 := Lib.hid hz2
    have HI := Lib.hid hi
    clear hcase hnone hrd hz0 hz1 hz2 hi
    have hown : Own (w.alloc (.cells #[] 27)) 27 5 (.slice (some ⟨w.heap.size, 0, none⟩) 0 0) 0 [] := ⟨by simp, by simp, .inr ⟨w.heap.size, 0, #[], rfl, heap_alloc_self w _, Nat.le_refl _, Nat.zero_le _, by simp, rfl⟩⟩
    have hrd2 : Rd (w.alloc (.cells #[] 27)) 5 (.slice (some a) n cap) n xs := hrd'.out.kept ((Kept.refl (fun _ => False) _).alloc _) (fun _ _ h => h)
    have HO := Lib.hid hown
    have HR := Lib.hid hrd2
    clear hown hrd2
    go_enter Try.func26, Try.ntmps26
    go_wp2_with (at_builtin; refine wpList_append_Rd _ rfl _ _ 31 rfl 27 i0 _ 5 64 Try.underlying31 HI.out HZ.out HZ1.out HZ2.out rfl _ 0 [] rfl HO.out _ n xs rfl HR.out hone (by omega) (by omega) ?_; intro v' w' h1 h2 h3 h4 h5; have H1 := Lib.hid h1; have H2 := Lib.hid h2; have H3 := Lib.hid h3; clear h1 h2 h3 h4 h5)
    go_ret
    have h1 := H1.out
    rw [Nat.zero_add, List.nil_append] at h1
    have hk : Kept (fun _ => False) w w' := ((Kept.refl (fun _ => False) w).alloc _).trans H2.out (fun k hk => .inr (Nat.le_of_eq (Option.some.inj hk)))
    obtain ⟨ao', cap', rfl, -⟩ := h1.rd.2.2
    refine ⟨_, _, rfl, h1, hk, fun g hg => ⟨?_, h1.lt g hg⟩⟩
    rcases H3.out with h | ⟨h, _⟩
    · rw [hg] at h; exact Nat.le_of_eq (Option.some.inj h).symm
    · rw [hg] at h; have := Option.some.inj h; rw [World.size_alloc] at this; omega

theorem cloneRow {w : World} {v : Value} {n : Nat} {xs : List Value} (hrd : Rd w 3 v n xs) (hone : ∀ u ∈ xs, u.oneCell' = true) (hb : n * 32 ≤ 140737488355328) :
    Calls Try.prog 21 #[v] w fun e w' => ∃ ao cap, e = .returned (.slice ao n cap) ∧ Own w' 23 3 (.slice ao n cap) n xs ∧ Kept (fun _ => False) w w' ∧ (∀ g, (Value.slice ao n cap).ownBlock = some g → NewIn w w' g) := by
  have HR := Lib.hid hrd
  clear hrd
  go_enter Try.func21, Try.ntmps21
  go_wp2_with fail
  refine (cloneRow0 HR.out hone hb).mono ?_
  rintro e w' ⟨ao, cap, rfl, h1, h2, h3⟩
  have H1 := Lib.hid h1
  have H2 := Lib.hid h2
  have H3 := Lib.hid h3
  clear h1 h2 h3
  go_wp2_with fail
  go_ret
  exact ⟨ao, cap, rfl, H1.out, H2.out, H3.out⟩
end Go.Proofs.Ytokcpmeoiblpfaa
