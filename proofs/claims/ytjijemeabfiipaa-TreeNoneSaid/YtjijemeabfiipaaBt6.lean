/- The tree as data: what it tells of a span. -/
import Derived.Test.YtjijemeabfiipaaBt5
import Derived.Test.YtjijemeabfiipaaTree15
namespace Go.Proofs.Ytjijemeabfiipaa
open Go.ChangeShapes Go.WideShapes Go.ChangeAt Go.RowKit
set_option maxRecDepth 100000
set_option linter.unusedSimpArgs false

instance : Inhabited Kid := ⟨⟨0, [], []⟩⟩
def inS (s : Spn) (L : PL) : PL := L.filter (fun p => spanIn s p.1)
theorem stop_at (p : Nat → Bool) : ∀ N, ∃ n, n ≤ N ∧ (∀ j, j < n → 0 < j → p j = false) ∧ (n = N ∨ (0 < n ∧ p n = true))
  | 0 => ⟨0, Nat.le_refl _, fun j h => by omega, .inl rfl⟩
  | N + 1 => by
    obtain ⟨n, h1, h2, h3⟩ := stop_at p N
    rcases h3 with rfl | h3
    · by_cases h0 : 0 < n ∧ p n = true
      · exact ⟨n, by omega, h2, .inr h0⟩
      · refine ⟨n + 1, Nat.le_refl _, fun j hj hj0 => ?_, .inl rfl⟩
        by_cases he : j = n
        · subst he
          cases hp : p j with
          | false => rfl
          | true => exact absurd ⟨hj0, hp⟩ h0
        · exact h2 j (by omega) hj0
    · exact ⟨n, by omega, h2, .inr h3⟩
theorem tells_take (cs : List Kid) (g : Kid → PL) : ∀ n, n ≤ cs.length → tells (fun j => g (cs.getD j default)) n = (cs.take n).flatMap g
  | 0, _ => by simp [tells]
  | n + 1, h => by
    rw [tells_succ, tells_take cs g n (by omega), List.take_succ_eq_append_getElem (by omega), List.flatMap_append]
    simp [List.getD_eq_getElem?_getD, List.getElem?_eq_getElem (show n < cs.length by omega)]

theorem walks_law {T : TM} {s : Spn} (hno : s.no = false) : ∀ (d i : Nat) (L : PL) (ids : List Nat), Rep T.nodes d i L ids → (∀ m, T.nodes[i]? = some m → m.size ≤ 4) → T.Walks s i (inS s L)
  | 0, i, L, ids, ⟨m, hm, h1, h2, h3, h4, h5⟩, hz => by
    have hkl : m.keys.length ≤ 4 := by have := hz m hm; unfold NodeM.size at this; rw [h1, if_pos rfl] at this; exact this
    have := TM.Walks.leaf (s := s) hm h1 h3 (by omega)
    have e : m.tell s m.keys.length = inS s L := by
      unfold NodeM.tell inS
      rw [h4, List.take_of_length_le (by rw [List.length_zip, h3]; omega)]
    rw [e] at this
    exact this
  | d + 1, i, L, ids, ⟨m, hm, h1, h2, cs, h3, h4, h5, h6, h7, h8, h9⟩, hz => by
    have hkids : m.kids.length ≤ 4 := by have := hz m hm; unfold NodeM.size at this; rw [h1] at this; simpa using this
    have hkc : m.kids.length = cs.length := by rw [h3, List.length_map]
    have hst := start_le m s
    obtain ⟨n, n1, n2, n3⟩ := stop_at (fun j => m.past s (m.start s + j - 1)) (cs.length - m.start s)
    have hlo : ∀ x ∈ (cs.take (m.start s)).flatMap Kid.L, spanIn s x.1 = false := by
      intro x hx
      by_cases h0 : m.start s = 0
      · rw [h0] at hx; simp at hx
      · unfold NodeM.start at h0 hx
        cases hl : s.hasLo
        · rw [hl] at h0; simp at h0
        · rw [hl, if_pos rfl] at h0 hx
          have hb := belowF_le m.keys s.lo
          obtain ⟨y, hy⟩ : ∃ y, m.keys[belowF m.keys s.lo - 1]? = some y := ⟨_, List.getElem?_eq_getElem (by omega)⟩
          have e1 := (h6 _ y hy).1 x (by rw [show belowF m.keys s.lo - 1 + 1 = belowF m.keys s.lo by omega]; exact hx)
          have e2 := (belowF_spec s.lo h7 _ y hy).1 (by omega)
          have e3 := lt_le e1 e2
          unfold spanIn spanLo
          rw [hl]
          simp [e3]
    have hhi : ∀ x ∈ (cs.drop (m.start s + n)).flatMap Kid.L, spanIn s x.1 = false := by
      intro x hx
      rcases n3 with n3 | ⟨n3, n4⟩
      · rw [List.drop_of_length_le (by omega)] at hx; simp at hx
      · unfold NodeM.past at n4
        simp only [Bool.and_eq_true, decide_eq_true_eq] at n4
        by_cases he : m.start s + n = cs.length
        · rw [List.drop_of_length_le (by omega)] at hx; simp at hx
        · obtain ⟨y, hy⟩ : ∃ y, m.keys[m.start s + n - 1]? = some y := ⟨_, List.getElem?_eq_getElem (by omega)⟩
          rw [List.getD_eq_getElem?_getD, hy] at n4
          have e1 := (h6 _ y hy).2 x (by rw [show m.start s + n - 1 + 1 = m.start s + n by omega]; exact hx)
          have e2 : valCmp s.hi x.1 < 0 := lt_le ((gt_iff _ _).1 n4.2) e1
          have e3 := (gt_iff x.1 s.hi).2 e2
          unfold spanIn spanHi
          rw [n4.1]
          have e4 : decide (valCmp x.1 s.hi < 0) = false := by simp; omega
          have e5 : decide (valCmp x.1 s.hi = 0) = false := by simp; omega
          rw [e4, e5]; simp
    have key := TM.Walks.inner (T := T) (s := s) hm h1 (by omega) (by omega) n (fun j => inS s ((cs.drop (m.start s)).getD j default).L) (by omega) n2 (n3.imp (fun h => by omega) (fun h => h)) (fun j kid hj hk => by
      rw [h3, List.getElem?_map] at hk
      obtain ⟨c, hc⟩ : ∃ c, cs[m.start s + j]? = some c := ⟨_, List.getElem?_eq_getElem (by omega)⟩
      rw [hc] at hk
      cases hk
      have hd : (cs.drop (m.start s)).getD j default = c := by rw [List.getD_eq_getElem?_getD, List.getElem?_drop, hc]; rfl
      rw [hd]
      obtain ⟨hr, m', hm', _, hf⟩ := h5 c (List.mem_of_getElem? hc)
      exact walks_law hno d c.id c.L c.ids hr (fun m'' hm'' => by rw [hm'] at hm''; cases hm''; exact hf))
    have e : tells (fun j => inS s ((cs.drop (m.start s)).getD j default).L) n = inS s L := by
      rw [tells_take (cs.drop (m.start s)) (fun c => inS s c.L) n (by rw [List.length_drop]; omega)]
      have e1 : L = (cs.take (m.start s)).flatMap Kid.L ++ (((cs.drop (m.start s)).take n).flatMap Kid.L ++ (cs.drop (m.start s + n)).flatMap Kid.L) := by
        rw [h8, ← List.drop_drop, ← List.flatMap_append, List.take_append_drop, ← List.flatMap_append, List.take_append_drop]
      rw [e1]
      unfold inS
      rw [List.filter_append, List.filter_append, filter_none hlo, filter_none hhi, List.filter_flatMap]
      simp
    rw [e] at key
    exact key

theorem Good.tells {T : TM} {L : PL} (h : Good T L) (s : Spn) : T.Tells s (inS s L) := by
  rcases h.rep with ⟨h1, h2, _⟩ | ⟨r, d, ids, m, h1, h2, h3, h4, h5, h6, h7⟩
  · exact .inl ⟨by rw [h2]; rfl, .inl h1⟩
  · cases hno : s.no
    · exact .inr ⟨r, h1, hno, walks_law hno d r L ids h3 (fun m' hm' => by rw [h5] at hm'; cases hm'; exact h7)⟩
    · refine .inl ⟨?_, .inr hno⟩
      unfold inS
      exact filter_none (fun x _ => by unfold spanIn; rw [hno]; simp)
theorem inS_len (s : Spn) (L : PL) : (inS s L).length ≤ L.length := List.length_filter_le _ _
end Go.Proofs.Ytjijemeabfiipaa
