/- Contracts of undo.(*Log).cut, Back, All. -/
import Derived.Test.YtokcpmeoiblpfaaUndo4
namespace Go.Proofs.Ytokcpmeoiblpfaa
open Go.ChangeShapes Go.WideShapes Go.ChangeAt Go.RowKit
set_option maxRecDepth 100000

/-- the elements from a place on -/
theorem tail_Own {P : Program} {w : World} {t e : TypeId} {size : Nat} {v : Value} {n : Nat} {xs : List Value} (h : Own w e size v n xs) (ht : P.underlying t = some (.slice (P.elem t))) (hs : ∀ w0 : World, (sizeOf (P.elem t)).run P w0 = .ok size w0) {at_ : Nat} (hat : at_ ≤ n) :
    ∃ ao cap, (∀ w0 : World, (Instr.slice t v (some (.int .i64 at_)) none none).run P w0 = .ok (.slice ao (n - at_) cap) w0) ∧ Rd w size (.slice ao (n - at_) cap) (n - at_) (xs.drop (at_ * size)) := by
  have hle := h.le
  have hx := h.1
  have hlen : (xs.drop (at_ * size)).length = (n - at_) * size := by rw [List.length_drop, hx, Nat.sub_mul]
  rcases h.2.2 with ⟨rfl, rfl⟩ | ⟨g, cap, cur, rfl, hg, hnc, hcm, hcs, htake⟩
  · obtain rfl : at_ = 0 := by omega
    refine ⟨none, 0, fun w0 => ?_, ?_⟩
    · rw [run_slice_l w0 t none 0 0 ht .i64 _ (by omega) (by omega), hs]
      rfl
    · exact ⟨by simpa using hlen, hle, none, 0, rfl, Nat.le_refl _, Nat.zero_le _, fun _ => rfl, .inl rfl⟩
  · by_cases hc : cap = at_
    · obtain rfl : n = at_ := by omega
      refine ⟨some ⟨g, 0, none⟩, cap - n, fun w0 => ?_, ?_⟩
      · rw [run_slice_l w0 t _ _ _ ht .i64 _ (by omega) (by omega), hs]
        simp [Result.andThen, sliced, hc]
      · exact ⟨hlen, by omega, _, _, rfl, by omega, by omega, fun h => by simp at h, .inl (by omega)⟩
    · refine ⟨some ⟨g, at_ * size, none⟩, cap - at_, fun w0 => ?_, ?_⟩
      · rw [run_slice_l w0 t _ _ _ ht .i64 _ (by omega) (by omega), hs]
        simp [Result.andThen, sliced, hc, add_none]
      · refine ⟨hlen, by omega, _, _, rfl, by omega, by omega, fun h => by simp at h, .inr ⟨g, _, rfl, fun j u hu => ?_⟩⟩
        rw [List.getElem?_drop] at hu
        exact h.cells _ _ hu

/-- the elements ahead of a place, with no room -/
theorem head_Own {P : Program} {w : World} {t e : TypeId} {size : Nat} {v : Value} {n : Nat} {xs : List Value} (h : Own w e size v n xs) (ht : P.underlying t = some (.slice (P.elem t))) (hs : ∀ w0 : World, (sizeOf (P.elem t)).run P w0 = .ok size w0) {at_ : Nat} (hat : at_ ≤ n) :
    ∃ ao cap, (∀ w0 : World, (Instr.slice t v none (some (.int .i64 at_)) (some (.int .i64 at_))).run P w0 = .ok (.slice ao at_ cap) w0) ∧ Own w e size (.slice ao at_ cap) at_ (xs.take (at_ * size)) ∧ (Value.slice ao at_ cap).ownBlock = v.ownBlock := by
  have hle := h.le
  have hx := h.1
  rcases h.2.2 with ⟨rfl, rfl⟩ | ⟨g, cap, cur, rfl, hg, hnc, hcm, hcs, htake⟩
  · obtain rfl : at_ = 0 := by omega
    refine ⟨none, 0, fun w0 => ?_, ?_, rfl⟩
    · rw [run_slice_hm w0 t none 0 0 ht .i64 .i64 _ _ (by omega) (by omega) (by omega), hs]
      rfl
    · rw [Nat.zero_mul, List.take_zero]; exact Own.nil _ _ _
  · refine ⟨some ⟨g, 0, none⟩, at_, fun w0 => ?_, h.cut hat (Nat.le_refl _) (by omega), rfl⟩
    rw [run_slice_hm w0 t _ _ _ ht .i64 .i64 _ _ (by omega) (by omega) (by omega), hs]
    by_cases hc : at_ = 0 <;> simp [Result.andThen, sliced, hc, add_none]

theorem tailEnt {w : World} {v : Value} {l : List Ent} (h : Own w tEnt 5 v l.length (l.flatMap Ent.cells)) {at_ : Nat} (hat : at_ ≤ l.length) :
    ∃ ao cap, (∀ w0 : World, (Instr.slice 31 v (some (.int .i64 at_)) none none).run Try.prog w0 = .ok (.slice ao (l.length - at_) cap) w0) ∧ Rd w 5 (.slice ao (l.length - at_) cap) (l.length - at_) ((l.drop at_).flatMap Ent.cells) := by
  have := tail_Own (P := Try.prog) (t := 31) h Try.underlying31 (fun w0 => Try.sizeOf27 w0) hat
  rw [flat_drop Ent.len] at this
  exact this
theorem headEnt {w : World} {v : Value} {l : List Ent} (h : Own w tEnt 5 v l.length (l.flatMap Ent.cells)) {at_ : Nat} (hat : at_ ≤ l.length) :
    ∃ ao cap, (∀ w0 : World, (Instr.slice 31 v none (some (.int .i64 at_)) (some (.int .i64 at_))).run Try.prog w0 = .ok (.slice ao at_ cap) w0) ∧ Own w tEnt 5 (.slice ao at_ cap) at_ ((l.take at_).flatMap Ent.cells) ∧ (Value.slice ao at_ cap).ownBlock = v.ownBlock := by
  have := head_Own (P := Try.prog) (t := 31) h Try.underlying31 (fun w0 => Try.sizeOf27 w0) hat
  rw [flat_take Ent.len] at this
  exact this
end Go.Proofs.Ytokcpmeoiblpfaa
