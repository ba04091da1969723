/- What all walks of the Store's laws share: how many rows; a store behind a script. -/
import Derived.Test.YtcbklkcpjldcjaaJ45
import Derived.Test.YtcbklkcpjldcjaaJ47
namespace Go.Proofs.Ytcbklkcpjldcjaa
open Go.ChangeShapes Go.WideShapes Go.ChangeAt Go.RowKit
set_option maxRecDepth 100000
set_option linter.unusedSimpArgs false

/-- what is done behind an insertion -/
theorem traces_view {A : StM} (hI : StI 60 A) (t : Int) (r : List Val) :
    (∃ e, (e == (0 : Int)) = false ∧ A.ins t r = (A, 0, e) ∧ StI 61 A) ∨ ∃ (A1 : StM) (n1 : Int), A.ins t r = (A1, n1, 0) ∧ 0 ≤ n1 ∧ n1 ≤ 100 ∧ StI 61 A1 ∧ 1 ≤ r.length ∧ r[0]? = some (keyOf r) ∧ (scanA A1 t spn0).length = (scanA A t spn0).length + 1 ∧
      ((A1.used == A.used) = true ∨ ((A1.used == A.used) = false ∧ A1.fre t (keyOf r) = (A1, 60) ∧ StI 62 A1 ∧ ∃ A3 A4 A5 : StM, A1.rmv t (keyOf r) = (A3, 0) ∧ StI 63 A3 ∧ A3.fre t (keyOf r) = (A4, 0) ∧ StI 64 A4 ∧ A4.fre t (keyOf r) = (A4, 61) ∧ StI 65 A4 ∧
        A4.ins t r = (A5, n1 + 1, 0) ∧ StI 66 A5 ∧ (scanA A5 t spn0).length = (scanA A t spn0).length + 1)) := by
  have i1 := hI.ins t r
  by_cases he : (A.ins t r).2.2 = 0
  · right
    obtain ⟨h1, h2, h3, h4⟩ := traces_law hI t r he
    have hn : (A.ins t r).2.1 = A.last + 1 := by
      rcases ins_law hI t r with ⟨h, _, _⟩ | ⟨j, c, m, _, _, _, _, _, _, _, _, _, _, _, _, _, hins⟩
      · exact absurd he h
      · rw [hins]
    have hl := hI.last
    generalize hX : A.ins t r = X at *
    obtain ⟨A1, n1, e⟩ := X
    dsimp only at *
    subst he
    refine ⟨A1, n1, rfl, by omega, by omega, i1, h1, h2, h3, ?_⟩
    rcases h4 with h4 | ⟨h4, h5, h6, h7, h8, h9, h10⟩
    · exact .inl (by rw [h4]; simp)
    · right
      have i2 := i1.fre t (keyOf r)
      rw [h5] at i2
      have i3 := i2.rmv t (keyOf r)
      generalize A1.rmv t (keyOf r) = Y at *
      obtain ⟨A3, e3⟩ := Y
      dsimp only at *
      subst h6
      have i4 := i3.fre t (keyOf r)
      generalize hY4 : A3.fre t (keyOf r) = Y at *
      obtain ⟨A4, e4⟩ := Y
      dsimp only at *
      subst h7
      have i5 := i4.fre t (keyOf r)
      rw [h8] at i5
      have i6 := i5.ins t r
      generalize hY5 : A4.ins t r = Y at *
      obtain ⟨A5, n5, e5⟩ := Y
      dsimp only at *
      obtain ⟨rfl, rfl⟩ := Prod.mk.inj h9
      exact ⟨by simpa using h4, h5, i2, A3, A4, A5, rfl, i3, hY4, i4, h8, i5, hY5, i6, h10⟩
  · left
    rcases ins_law hI t r with ⟨h1, h2, h3⟩ | ⟨j, c, m, _, _, _, _, _, _, _, _, _, _, _, _, _, hins⟩
    · generalize A.ins t r = X at *
      obtain ⟨A1, n1, e⟩ := X
      dsimp only at *
      subst h2 h3
      exact ⟨e, by simpa using h1, rfl, i1⟩
    · rw [hins] at he
      exact absurd rfl he
theorem scan_len {n : Nat} {A : StM} (hI : StI n A) (t : Int) (sp : Spn) : (scanA A t sp).length ≤ 40 := by
  have h1 : (scanA A t sp).length ≤ (A.tab t).length := by unfold scanA; rw [List.length_map]; exact List.length_filter_le _ _
  have h2 : (A.tab t).length ≤ 40 := by
    cases hh : A.has t
    · unfold StM.tab
      rw [hh]
      simp
    · obtain ⟨j, c, m, rfl, _, _, hm, htab, _⟩ := hI.at hh
      rw [htab]
      have h3 := le_sum (List.mem_map.2 ⟨m, List.mem_of_getElem? hm, rfl⟩ : m.length ∈ A.tabs.map List.length)
      have h4 := hI.used
      have h5 := hI.full
      have h6 := hI.room
      omega
  omega

theorem behind_ptr {B : World} {D : PH} {cs : List (List Bool)} {room : Int} {l : List HP} {e : Ending} {w' : World} (h : BehindQ B D cs room l e w') : ∃ o : Option Addr, e = .returned (.pointer o) ∧ ((o = none ∧ Sat B D w' l) ∨ ∃ (s : Nat) (A : StM), o = some ⟨s, 0, none⟩ ∧ StI 60 A ∧ A.cols = cs ∧ A.room = room ∧ Sat B D w' (storeB s 60 A :: l)) := by
  rcases h with ⟨rfl, h⟩ | ⟨s, A, rfl, h1, h2, h3, h4⟩
  · exact ⟨_, rfl, .inl ⟨rfl, h⟩⟩
  · exact ⟨_, rfl, .inr ⟨s, A, rfl, h1, h2, h3, h4⟩⟩
end Go.Proofs.Ytcbklkcpjldcjaa
