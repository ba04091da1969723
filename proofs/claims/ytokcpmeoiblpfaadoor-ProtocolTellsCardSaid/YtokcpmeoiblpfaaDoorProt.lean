/- Contracts of package protocol over its table of levels (the table's cells are a hypothesis), and of the reference of layer 14. -/
import Derived.Test.YtokcpmeoiblpfaaDoorKit
namespace Go.Proofs.YtokcpmeoiblpfaaDoor
open Go.ChangeShapes Go.WideShapes Go.ChangeAt Go.RowKit

def lvNames : List (List UInt8) := [[], [80, 76, 45, 49], [80, 76, 45, 50], [80, 76, 45, 67, 83], [80, 76, 45, 50, 46, 57, 57], [80, 76, 45, 51]]
def lvCells : List (List Int) := [[0, 0, 0, 0, 0, 0, 0, 0, 0], [0, 0, 0, 0, 0, 0, 5, 2, 0], [3, 1, 0, 0, 3, 1, 5, 2, 1], [3, 1, 0, 0, 3, 2, 5, 2, 1], [3, 3, 3, 3, 3, 3, 5, 3, 1], [3, 3, 3, 3, 3, 3, 5, 3, 3]]
def nm (l : Int) : ByteArray := if l < 1 ∨ 5 < l then ⟨#[]⟩ else ⟨(lvNames.getD l.toNat []).toArray⟩
def cl (l : Int) (j : Nat) : Int := if l < 1 ∨ 5 < l then 0 else (lvCells.getD l.toNat []).getD j 0
theorem nm_out {l : Int} (h : l < 1 ∨ 5 < l) : nm l = ⟨#[]⟩ := by unfold nm; rw [if_pos h]
theorem cl_out {l : Int} (h : l < 1 ∨ 5 < l) (j : Nat) : cl l j = 0 := by unfold cl; rw [if_pos h]
def tabRow (n : List UInt8) (c : List Int) : List Value := .string ⟨n.toArray⟩ :: c.map (Value.int .i64)
def tabCells : List Value := (lvNames.zip lvCells).flatMap fun x => tabRow x.1 x.2
/-- the table of levels lies in block 0 -/
structure Tb (w : World) : Prop where
  pos : 0 < w.heap.size
  cell : ∀ i x, tabCells[i]? = some x → w.cell? ⟨0, i, none⟩ = some x
theorem Tb.below {w w' : World} (h : Tb w) (hb : Below w.heap.size w w') : Tb w' :=
  ⟨Nat.lt_of_lt_of_le h.pos hb.size, fun i x hx => (hb.cell (p := ⟨0, i, none⟩) h.pos).trans (h.cell i x hx)⟩
def lvAgg (l : Int) : Value := .agg #[.string (nm l), .int .i64 (cl l 0), .int .i64 (cl l 1), .int .i64 (cl l 2), .int .i64 (cl l 3), .int .i64 (cl l 4), .int .i64 (cl l 5), .int .i64 (cl l 6), .int .i64 (cl l 7), .int .i64 (cl l 8)]
theorem lvAgg_out {l : Int} (h : l < 1 ∨ 5 < l) : lvAgg l = .agg #[.string ⟨#[]⟩, .int .i64 0, .int .i64 0, .int .i64 0, .int .i64 0, .int .i64 0, .int .i64 0, .int .i64 0, .int .i64 0, .int .i64 0] := by
  unfold lvAgg; simp only [nm_out h, cl_out h]

theorem of_out (l : Int) (h : l < 1 ∨ 5 < l) (w : World) :
    Calls Tryd.prog 22 #[.int .i64 l] w fun e w' => e = .returned (lvAgg l) ∧ Below w.heap.size w w' := by
  rw [lvAgg_out h]
  rcases h with h | h
  · go_enter Tryd.func22, Tryd.ntmps22
    go_wp2
    exact bodyPost_ret (v := .agg #[.string ⟨#[]⟩, .int .i64 0, .int .i64 0, .int .i64 0, .int .i64 0, .int .i64 0, .int .i64 0, .int .i64 0, .int .i64 0, .int .i64 0]) (by simp [results, Tryd.results22, go_sem]) rfl ⟨rfl, (Below.refl _ _).alloc (Nat.le_refl _) _⟩
  · have h' : ¬ l < 1 := by omega
    go_enter Tryd.func22, Tryd.ntmps22
    go_wp2
    exact bodyPost_ret (v := .agg #[.string ⟨#[]⟩, .int .i64 0, .int .i64 0, .int .i64 0, .int .i64 0, .int .i64 0, .int .i64 0, .int .i64 0, .int .i64 0, .int .i64 0]) (by simp [results, Tryd.results22, go_sem]) rfl ⟨rfl, (Below.refl _ _).alloc (Nat.le_refl _) _⟩

set_option maxHeartbeats 1000000 in
theorem of_1 (w : World) (h : Tb w) :
    Calls Tryd.prog 22 #[.int .i64 1] w fun e w' => e = .returned (lvAgg 1) ∧ Below w.heap.size w w' := by
  have hz := h.pos
  have c0 : w.cell? ⟨0, 10, none⟩ = some (.string ⟨#[80, 76, 45, 49]⟩) := h.cell _ _ rfl
  have c1 : w.cell? ⟨0, 11, none⟩ = some (.int .i64 0) := h.cell _ _ rfl
  have c2 : w.cell? ⟨0, 12, none⟩ = some (.int .i64 0) := h.cell _ _ rfl
  have c3 : w.cell? ⟨0, 13, none⟩ = some (.int .i64 0) := h.cell _ _ rfl
  have c4 : w.cell? ⟨0, 14, none⟩ = some (.int .i64 0) := h.cell _ _ rfl
  have c5 : w.cell? ⟨0, 15, none⟩ = some (.int .i64 0) := h.cell _ _ rfl
  have c6 : w.cell? ⟨0, 16, none⟩ = some (.int .i64 0) := h.cell _ _ rfl
  have c7 : w.cell? ⟨0, 17, none⟩ = some (.int .i64 5) := h.cell _ _ rfl
  have c8 : w.cell? ⟨0, 18, none⟩ = some (.int .i64 2) := h.cell _ _ rfl
  have c9 : w.cell? ⟨0, 19, none⟩ = some (.int .i64 0) := h.cell _ _ rfl
  go_enter Tryd.func22, Tryd.ntmps22
  go_wp2
  exact bodyPost_ret (v := .agg #[.string ⟨#[80, 76, 45, 49]⟩, .int .i64 0, .int .i64 0, .int .i64 0, .int .i64 0, .int .i64 0, .int .i64 0, .int .i64 5, .int .i64 2, .int .i64 0]) (by simp [results, Tryd.results22, go_sem]) rfl ⟨rfl, (Below.refl _ _).alloc (Nat.le_refl _) _⟩

set_option maxHeartbeats 1000000 in
theorem of_2 (w : World) (h : Tb w) :
    Calls Tryd.prog 22 #[.int .i64 2] w fun e w' => e = .returned (lvAgg 2) ∧ Below w.heap.size w w' := by
  have hz := h.pos
  have c0 : w.cell? ⟨0, 20, none⟩ = some (.string ⟨#[80, 76, 45, 50]⟩) := h.cell _ _ rfl
  have c1 : w.cell? ⟨0, 21, none⟩ = some (.int .i64 3) := h.cell _ _ rfl
  have c2 : w.cell? ⟨0, 22, none⟩ = some (.int .i64 1) := h.cell _ _ rfl
  have c3 : w.cell? ⟨0, 23, none⟩ = some (.int .i64 0) := h.cell _ _ rfl
  have c4 : w.cell? ⟨0, 24, none⟩ = some (.int .i64 0) := h.cell _ _ rfl
  have c5 : w.cell? ⟨0, 25, none⟩ = some (.int .i64 3) := h.cell _ _ rfl
  have c6 : w.cell? ⟨0, 26, none⟩ = some (.int .i64 1) := h.cell _ _ rfl
  have c7 : w.cell? ⟨0, 27, none⟩ = some (.int .i64 5) := h.cell _ _ rfl
  have c8 : w.cell? ⟨0, 28, none⟩ = some (.int .i64 2) := h.cell _ _ rfl
  have c9 : w.cell? ⟨0, 29, none⟩ = some (.int .i64 1) := h.cell _ _ rfl
  go_enter Tryd.func22, Tryd.ntmps22
  go_wp2
  exact bodyPost_ret (v := .agg #[.string ⟨#[80, 76, 45, 50]⟩, .int .i64 3, .int .i64 1, .int .i64 0, .int .i64 0, .int .i64 3, .int .i64 1, .int .i64 5, .int .i64 2, .int .i64 1]) (by simp [results, Tryd.results22, go_sem]) rfl ⟨rfl, (Below.refl _ _).alloc (Nat.le_refl _) _⟩

set_option maxHeartbeats 1000000 in
theorem of_3 (w : World) (h : Tb w) :
    Calls Tryd.prog 22 #[.int .i64 3] w fun e w' => e = .returned (lvAgg 3) ∧ Below w.heap.size w w' := by
  have hz := h.pos
  have c0 : w.cell? ⟨0, 30, none⟩ = some (.string ⟨#[80, 76, 45, 67, 83]⟩) := h.cell _ _ rfl
  have c1 : w.cell? ⟨0, 31, none⟩ = some (.int .i64 3) := h.cell _ _ rfl
  have c2 : w.cell? ⟨0, 32, none⟩ = some (.int .i64 1) := h.cell _ _ rfl
  have c3 : w.cell? ⟨0, 33, none⟩ = some (.int .i64 0) := h.cell _ _ rfl
  have c4 : w.cell? ⟨0, 34, none⟩ = some (.int .i64 0) := h.cell _ _ rfl
  have c5 : w.cell? ⟨0, 35, none⟩ = some (.int .i64 3) := h.cell _ _ rfl
  have c6 : w.cell? ⟨0, 36, none⟩ = some (.int .i64 2) := h.cell _ _ rfl
  have c7 : w.cell? ⟨0, 37, none⟩ = some (.int .i64 5) := h.cell _ _ rfl
  have c8 : w.cell? ⟨0, 38, none⟩ = some (.int .i64 2) := h.cell _ _ rfl
  have c9 : w.cell? ⟨0, 39, none⟩ = some (.int .i64 1) := h.cell _ _ rfl
  go_enter Tryd.func22, Tryd.ntmps22
  go_wp2
  exact bodyPost_ret (v := .agg #[.string ⟨#[80, 76, 45, 67, 83]⟩, .int .i64 3, .int .i64 1, .int .i64 0, .int .i64 0, .int .i64 3, .int .i64 2, .int .i64 5, .int .i64 2, .int .i64 1]) (by simp [results, Tryd.results22, go_sem]) rfl ⟨rfl, (Below.refl _ _).alloc (Nat.le_refl _) _⟩

set_option maxHeartbeats 1000000 in
theorem of_4 (w : World) (h : Tb w) :
    Calls Tryd.prog 22 #[.int .i64 4] w fun e w' => e = .returned (lvAgg 4) ∧ Below w.heap.size w w' := by
  have hz := h.pos
  have c0 : w.cell? ⟨0, 40, none⟩ = some (.string ⟨#[80, 76, 45, 50, 46, 57, 57]⟩) := h.cell _ _ rfl
  have c1 : w.cell? ⟨0, 41, none⟩ = some (.int .i64 3) := h.cell _ _ rfl
  have c2 : w.cell? ⟨0, 42, none⟩ = some (.int .i64 3) := h.cell _ _ rfl
  have c3 : w.cell? ⟨0, 43, none⟩ = some (.int .i64 3) := h.cell _ _ rfl
  have c4 : w.cell? ⟨0, 44, none⟩ = some (.int .i64 3) := h.cell _ _ rfl
  have c5 : w.cell? ⟨0, 45, none⟩ = some (.int .i64 3) := h.cell _ _ rfl
  have c6 : w.cell? ⟨0, 46, none⟩ = some (.int .i64 3) := h.cell _ _ rfl
  have c7 : w.cell? ⟨0, 47, none⟩ = some (.int .i64 5) := h.cell _ _ rfl
  have c8 : w.cell? ⟨0, 48, none⟩ = some (.int .i64 3) := h.cell _ _ rfl
  have c9 : w.cell? ⟨0, 49, none⟩ = some (.int .i64 1) := h.cell _ _ rfl
  go_enter Tryd.func22, Tryd.ntmps22
  go_wp2
  exact bodyPost_ret (v := .agg #[.string ⟨#[80, 76, 45, 50, 46, 57, 57]⟩, .int .i64 3, .int .i64 3, .int .i64 3, .int .i64 3, .int .i64 3, .int .i64 3, .int .i64 5, .int .i64 3, .int .i64 1]) (by simp [results, Tryd.results22, go_sem]) rfl ⟨rfl, (Below.refl _ _).alloc (Nat.le_refl _) _⟩

set_option maxHeartbeats 1000000 in
theorem of_5 (w : World) (h : Tb w) :
    Calls Tryd.prog 22 #[.int .i64 5] w fun e w' => e = .returned (lvAgg 5) ∧ Below w.heap.size w w' := by
  have hz := h.pos
  have c0 : w.cell? ⟨0, 50, none⟩ = some (.string ⟨#[80, 76, 45, 51]⟩) := h.cell _ _ rfl
  have c1 : w.cell? ⟨0, 51, none⟩ = some (.int .i64 3) := h.cell _ _ rfl
  have c2 : w.cell? ⟨0, 52, none⟩ = some (.int .i64 3) := h.cell _ _ rfl
  have c3 : w.cell? ⟨0, 53, none⟩ = some (.int .i64 3) := h.cell _ _ rfl
  have c4 : w.cell? ⟨0, 54, none⟩ = some (.int .i64 3) := h.cell _ _ rfl
  have c5 : w.cell? ⟨0, 55, none⟩ = some (.int .i64 3) := h.cell _ _ rfl
  have c6 : w.cell? ⟨0, 56, none⟩ = some (.int .i64 3) := h.cell _ _ rfl
  have c7 : w.cell? ⟨0, 57, none⟩ = some (.int .i64 5) := h.cell _ _ rfl
  have c8 : w.cell? ⟨0, 58, none⟩ = some (.int .i64 3) := h.cell _ _ rfl
  have c9 : w.cell? ⟨0, 59, none⟩ = some (.int .i64 3) := h.cell _ _ rfl
  go_enter Tryd.func22, Tryd.ntmps22
  go_wp2
  exact bodyPost_ret (v := .agg #[.string ⟨#[80, 76, 45, 51]⟩, .int .i64 3, .int .i64 3, .int .i64 3, .int .i64 3, .int .i64 3, .int .i64 3, .int .i64 5, .int .i64 3, .int .i64 3]) (by simp [results, Tryd.results22, go_sem]) rfl ⟨rfl, (Below.refl _ _).alloc (Nat.le_refl _) _⟩

theorem cases5 (l : Int) : (l < 1 ∨ 5 < l) ∨ l = 1 ∨ l = 2 ∨ l = 3 ∨ l = 4 ∨ l = 5 := by omega
theorem of_any (l : Int) (w : World) (h : Tb w) :
    Calls Tryd.prog 22 #[.int .i64 l] w fun e w' => e = .returned (lvAgg l) ∧ Below w.heap.size w w' := by
  rcases cases5 l with hl | rfl | rfl | rfl | rfl | rfl
  · exact of_out l hl w
  · exact of_1 w h
  · exact of_2 w h
  · exact of_3 w h
  · exact of_4 w h
  · exact of_5 w h

theorem get_any (l : Int) (w : World) (h : Tb w) :
    Calls Tryd.prog 14 #[.int .i64 l] w fun e w' => e = .returned (.tuple #[.int .i64 (cl l 0), .int .i64 (cl l 1)]) ∧ Below w.heap.size w w' := by
  have hz := h.pos
  go_enter Tryd.func14, Tryd.ntmps14
  go_wp2_with fail
  refine (of_any l _ h).mono ?_
  rintro e w1 ⟨rfl, hb⟩
  unfold lvAgg
  go_wp2_with fail
  go_quiet (fail)
  go_wp2_with fail
  go_ret2
  exact ⟨rfl, below_drewN (hb.alloc hb.size _) _⟩

theorem rows_any (l : Int) (w : World) (h : Tb w) :
    Calls Tryd.prog 16 #[.int .i64 l] w fun e w' => e = .returned (.tuple #[.int .i64 (cl l 2), .int .i64 (cl l 3)]) ∧ Below w.heap.size w w' := by
  have hz := h.pos
  go_enter Tryd.func16, Tryd.ntmps16
  go_wp2_with fail
  refine (of_any l _ h).mono ?_
  rintro e w1 ⟨rfl, hb⟩
  unfold lvAgg
  go_wp2_with fail
  go_quiet (fail)
  go_wp2_with fail
  go_ret2
  exact ⟨rfl, below_drewN (hb.alloc hb.size _) _⟩

theorem scan_any (l : Int) (w : World) (h : Tb w) :
    Calls Tryd.prog 12 #[.int .i64 l] w fun e w' => e = .returned (.int .i64 (cl l 8)) ∧ Below w.heap.size w w' := by
  have hz := h.pos
  go_enter Tryd.func12, Tryd.ntmps12
  go_wp2_with fail
  refine (of_any l _ h).mono ?_
  rintro e w1 ⟨rfl, hb⟩
  unfold lvAgg
  go_wp2_with fail
  go_ret
  exact ⟨rfl, hb⟩

theorem name_any (l : Int) (w : World) (h : Tb w) :
    Calls Tryd.prog 11 #[.int .i64 l] w fun e w' => e = .returned (.string (nm l)) ∧ Below w.heap.size w w' := by
  have hz := h.pos
  go_enter Tryd.func11, Tryd.ntmps11
  go_wp2_with fail
  refine (of_any l _ h).mono ?_
  rintro e w1 ⟨rfl, hb⟩
  unfold lvAgg
  go_wp2_with fail
  go_ret
  exact ⟨rfl, hb⟩

set_option maxHeartbeats 1000000 in
theorem right_any (l : Int) (w : World) (h : Tb w) :
    Calls Tryd.prog 10 #[.int .i64 l] w fun e w' => e = .returned (.bool (decide (1 ≤ l ∧ l ≤ 5))) ∧ Below w.heap.size w w' := by
  have hz := h.pos
  rcases cases5 l with hl | rfl | rfl | rfl | rfl | rfl
  · have H : Hid (decide (1 ≤ l ∧ l ≤ 5) = false) := Lib.hid (by simp; omega)
    go_enter Tryd.func10, Tryd.ntmps10
    go_wp2_with fail
    refine (of_any l _ h).mono ?_
    rintro e w1 ⟨rfl, hb⟩
    rw [lvAgg_out hl]
    go_wp2_with fail
    go_ret
    exact ⟨ret_bool H.out.symm, hb⟩
  · go_enter Tryd.func10, Tryd.ntmps10
    go_wp2_with fail
    refine (of_any 1 _ h).mono ?_
    rintro e w1 ⟨rfl, hb⟩
    rw [show lvAgg 1 = .agg #[.string ⟨#[80, 76, 45, 49]⟩, .int .i64 0, .int .i64 0, .int .i64 0, .int .i64 0, .int .i64 0, .int .i64 0, .int .i64 5, .int .i64 2, .int .i64 0] from rfl]
    go_wp2_with fail
    go_ret
    exact ⟨rfl, hb⟩
  · go_enter Tryd.func10, Tryd.ntmps10
    go_wp2_with fail
    refine (of_any 2 _ h).mono ?_
    rintro e w1 ⟨rfl, hb⟩
    rw [show lvAgg 2 = .agg #[.string ⟨#[80, 76, 45, 50]⟩, .int .i64 3, .int .i64 1, .int .i64 0, .int .i64 0, .int .i64 3, .int .i64 1, .int .i64 5, .int .i64 2, .int .i64 1] from rfl]
    go_wp2_with fail
    go_ret
    exact ⟨rfl, hb⟩
  · go_enter Tryd.func10, Tryd.ntmps10
    go_wp2_with fail
    refine (of_any 3 _ h).mono ?_
    rintro e w1 ⟨rfl, hb⟩
    rw [show lvAgg 3 = .agg #[.string ⟨#[80, 76, 45, 67, 83]⟩, .int .i64 3, .int .i64 1, .int .i64 0, .int .i64 0, .int .i64 3, .int .i64 2, .int .i64 5, .int .i64 2, .int .i64 1] from rfl]
    go_wp2_with fail
    go_ret
    exact ⟨rfl, hb⟩
  · go_enter Tryd.func10, Tryd.ntmps10
    go_wp2_with fail
    refine (of_any 4 _ h).mono ?_
    rintro e w1 ⟨rfl, hb⟩
    rw [show lvAgg 4 = .agg #[.string ⟨#[80, 76, 45, 50, 46, 57, 57]⟩, .int .i64 3, .int .i64 3, .int .i64 3, .int .i64 3, .int .i64 3, .int .i64 3, .int .i64 5, .int .i64 3, .int .i64 1] from rfl]
    go_wp2_with fail
    go_ret
    exact ⟨rfl, hb⟩
  · go_enter Tryd.func10, Tryd.ntmps10
    go_wp2_with fail
    refine (of_any 5 _ h).mono ?_
    rintro e w1 ⟨rfl, hb⟩
    rw [show lvAgg 5 = .agg #[.string ⟨#[80, 76, 45, 51]⟩, .int .i64 3, .int .i64 3, .int .i64 3, .int .i64 3, .int .i64 3, .int .i64 3, .int .i64 5, .int .i64 3, .int .i64 3] from rfl]
    go_wp2_with fail
    go_ret
    exact ⟨rfl, hb⟩

theorem write_any (w : World) : Calls Tryd.prog 8 #[] w fun e w' => e = .returned (.tuple #[.int .i64 6, .int .i64 3]) ∧ w = w' := by
  go_enter Tryd.func8, Tryd.ntmps8
  go_wp2
  go_ret2
  exact ⟨rfl, rfl⟩

theorem fetch_no (l : Int) (w : World) (h : Tb w) :
    Calls Tryd.prog 9 #[.int .i64 l, .bool false] w fun e w' => e = .returned (.tuple #[.int .i64 (cl l 4), .int .i64 (cl l 5)]) ∧ Below w.heap.size w w' := by
  have hz := h.pos
  go_enter Tryd.func9, Tryd.ntmps9
  go_wp2_with fail
  refine (of_any l _ h).mono ?_
  rintro e w1 ⟨rfl, hb⟩
  unfold lvAgg
  go_wp2_with fail
  go_quiet (fail)
  go_wp2_with fail
  go_ret2
  exact ⟨rfl, below_drewN (hb.alloc hb.size _) _⟩

theorem fetch_yes (l : Int) (w : World) (h : Tb w) :
    Calls Tryd.prog 9 #[.int .i64 l, .bool true] w fun e w' => e = .returned (.tuple #[.int .i64 (cl l 6), .int .i64 (cl l 7)]) ∧ Below w.heap.size w w' := by
  have hz := h.pos
  go_enter Tryd.func9, Tryd.ntmps9
  go_wp2_with fail
  refine (of_any l _ h).mono ?_
  rintro e w1 ⟨rfl, hb⟩
  have hs := hb.size
  have h1 := h.below hb
  have hb' := hb.alloc hb.size (.cells #[.int .i64 (cl l 4), .int .i64 (cl l 5)] 35)
  unfold lvAgg
  go_wp2_with fail
  refine (of_any l _ (h.below hb')).mono ?_
  rintro e w2 ⟨rfl, hb2⟩
  have hs2 := hb2.size
  simp only [World.size_alloc] at hs2
  have k0 : w2.cell? ⟨w1.heap.size, 0, none⟩ = some (.int .i64 (cl l 4)) := (hb2.cell (p := ⟨w1.heap.size, 0, none⟩) (by simp)).trans (by simp [go_sem])
  have k1 : w2.cell? ⟨w1.heap.size, 1, none⟩ = some (.int .i64 (cl l 5)) := (hb2.cell (p := ⟨w1.heap.size, 1, none⟩) (by simp)).trans (by simp [go_sem])
  have f0 : w2.frozen? ⟨w1.heap.size, 0, none⟩ = false := (hb2.frozen (p := ⟨w1.heap.size, 0, none⟩) (by simp)).trans (by simp [go_sem])
  have f1 : w2.frozen? ⟨w1.heap.size, 1, none⟩ = false := (hb2.frozen (p := ⟨w1.heap.size, 1, none⟩) (by simp)).trans (by simp [go_sem])
  unfold lvAgg
  go_wp2_with fail
  go_quiet (fail)
  go_wp2_with fail
  go_ret2
  exact ⟨rfl, below_drewN (((hb'.trans (hb2.mono (by simp; omega))).setCell (by simp; omega) _).setCell (by simp; omega) _) _⟩

end Go.Proofs.YtokcpmeoiblpfaaDoor
