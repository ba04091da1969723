/- The tree as data: put below a node. -/
import Derived.Test.YtjijemeabfiipaaBt3
namespace Go.Proofs.Ytjijemeabfiipaa
open Go.ChangeShapes Go.WideShapes Go.ChangeAt Go.RowKit
set_option maxRecDepth 100000
set_option linter.unusedSimpArgs false

/-- the nodes below, parted at the one in which a key is to be found -/
theorem kid_part {keys : List Val} {cs : List Kid} (k : Val) (hlen : cs.length = keys.length + 1) (hse : Seps keys cs) (hsk : SortedK keys) :
    ∃ A c Bs, cs = A ++ c :: Bs ∧ A.length = belowF keys k ∧ (∀ x ∈ A.flatMap Kid.L, valCmp x.1 k < 0) ∧ (∀ x ∈ Bs.flatMap Kid.L, valCmp k x.1 < 0) ∧
      (∀ j y, keys[j]? = some y → if A.length ≤ j then valCmp k y < 0 else valCmp y k ≤ 0) := by
  have hb := belowF_le keys k
  have hlt : belowF keys k < cs.length := by omega
  have hAl : (cs.take (belowF keys k)).length = belowF keys k := by rw [List.length_take]; omega
  have hsp := belowF_spec k hsk
  refine ⟨cs.take (belowF keys k), cs[belowF keys k], cs.drop (belowF keys k + 1), ?_, hAl, ?_, ?_, ?_⟩
  · rw [← List.drop_eq_getElem_cons hlt, List.take_append_drop]
  · intro x hx
    by_cases h0 : belowF keys k = 0
    · rw [h0] at hx; simp at hx
    · obtain ⟨y, hy⟩ : ∃ y, keys[belowF keys k - 1]? = some y := ⟨_, List.getElem?_eq_getElem (by omega)⟩
      have h1 := (hse _ y hy).1 x (by rw [show belowF keys k - 1 + 1 = belowF keys k by omega]; exact hx)
      exact lt_le h1 ((hsp _ y hy).1 (by omega))
  · intro x hx
    by_cases h0 : belowF keys k = keys.length
    · rw [h0, List.drop_of_length_le (by omega)] at hx; simp at hx
    · obtain ⟨y, hy⟩ : ∃ y, keys[belowF keys k]? = some y := ⟨_, List.getElem?_eq_getElem (by omega)⟩
      have h1 := (hse _ y hy).2 x hx
      have h2 : ¬ valCmp y k ≤ 0 := fun h => by have := (hsp _ y hy).2 h; omega
      exact lt_le ((gt_iff _ _).1 (by omega)) h1
  · intro j y hy
    rw [hAl]
    split
    · have h2 : ¬ valCmp y k ≤ 0 := fun h => by have := (hsp _ y hy).2 h; omega
      exact (gt_iff _ _).1 (by omega)
    · exact (hsp _ y hy).1 (by omega)
theorem sorted_mid {A B C : PL} (h : SortedL (A ++ B ++ C)) : SortedL B := (List.pairwise_append.1 (List.pairwise_append.1 h).1).2.1
theorem right_mid {A B C : PL} (h : RightL (A ++ B ++ C)) : RightL B := fun x hx => h x (by simp [hx])

theorem put_law {k : Val} {v : VT} (hk : valRight k = true) : ∀ (d : Nat) (T : TM) (i : Nat) (L : PL) (ids ctx : List Nat), Rep T.nodes d i L ids → (ids ++ ctx ++ T.free).Perm (List.range T.nodes.length) → SortedL L → RightL L → T.nodes.length + d ≤ 1000000 → (∀ m, T.nodes[i]? = some m → m.size ≤ 4) →
    ∃ T' ids' m m', T.PutR k v i T' (!hasK L k) ∧ Rep T'.nodes d i (insL L k v) ids' ∧ (ids' ++ ctx ++ T'.free).Perm (List.range T'.nodes.length) ∧ (∀ x ∈ ctx, T'.nodes[x]? = T.nodes[x]?) ∧ T.nodes[i]? = some m ∧ T'.nodes[i]? = some m' ∧ m'.leaf = m.leaf ∧ m.size ≤ m'.size ∧ m'.size ≤ m.size + 1 ∧
      T'.nodes.length ≤ T.nodes.length + d ∧ (T'.nodes.length = T.nodes.length ∨ T'.free = [])
  | 0, T, i, L, ids, ctx, ⟨m, hm, h1, h2, h3, h4, h5⟩, hp, hs, hr, hbig, hz => by
    have hm4 := hz m hm
    have hkl : m.keys.length ≤ 4 := by unfold NodeM.size at hm4; rw [h1, if_pos rfl] at hm4; exact hm4
    have hlt := (List.getElem?_eq_some_iff.1 hm).1
    have hnd : (ids ++ ctx ++ T.free).Nodup := hp.nodup_iff.2 List.nodup_range
    have hni : ∀ x ∈ ctx, i ≠ x := fun x hx e => (List.nodup_append.1 (List.nodup_append.1 hnd).1).2.2 i (by rw [h5]; simp) x hx e
    rw [h4] at hs hr
    cases hb : bsIs m.keys k
    · obtain ⟨e1, e2⟩ := leaf_fresh (v := v) h3 hs hb
      refine ⟨{ T with nodes := T.nodes.set i { m with keys := insAt m.keys (bsAt m.keys k) k, vals := insAt m.vals (bsAt m.keys k) v } }, ids, m, { m with keys := insAt m.keys (bsAt m.keys k) k, vals := insAt m.vals (bsAt m.keys k) v }, ?_, ⟨{ m with keys := insAt m.keys (bsAt m.keys k) k, vals := insAt m.vals (bsAt m.keys k) v }, ?_, h1, h2, ?_, ?_, h5⟩, ?_, ?_, hm, ?_, rfl, ?_, ?_, ?_, ?_⟩
      · rw [h4, e2]; exact TM.PutR.fresh hm h1 (by omega) h3 hb
      · dsimp only; rw [List.getElem?_set_self hlt]
      · dsimp only; rw [insAt_len, insAt_len, h3]
      · dsimp only; rw [e1, h4]
      · dsimp only; rw [List.length_set]; exact hp
      · intro x hx; dsimp only; rw [List.getElem?_set_ne (hni x hx)]
      · dsimp only; rw [List.getElem?_set_self hlt]
      · unfold NodeM.size; dsimp only; rw [h1]; simp [insAt_len]
      · unfold NodeM.size; dsimp only; rw [h1]; simp [insAt_len]
      · dsimp only; rw [List.length_set]; omega
      · exact .inl (by dsimp only; rw [List.length_set])
    · obtain ⟨e1, e2⟩ := leaf_found (v := v) h3 hs hr hk hb
      refine ⟨{ T with nodes := T.nodes.set i { m with vals := m.vals.set (bsAt m.keys k) v } }, ids, m, { m with vals := m.vals.set (bsAt m.keys k) v }, ?_, ⟨{ m with vals := m.vals.set (bsAt m.keys k) v }, ?_, h1, h2, ?_, ?_, h5⟩, ?_, ?_, hm, ?_, rfl, ?_, ?_, ?_, ?_⟩
      · rw [h4, e2]; exact TM.PutR.found hm h1 (by omega) h3 hb
      · dsimp only; rw [List.getElem?_set_self hlt]
      · dsimp only; rw [List.length_set, h3]
      · dsimp only; rw [e1, h4]
      · dsimp only; rw [List.length_set]; exact hp
      · intro x hx; dsimp only; rw [List.getElem?_set_ne (hni x hx)]
      · dsimp only; rw [List.getElem?_set_self hlt]
      · exact Nat.le_refl _
      · unfold NodeM.size; dsimp only; omega
      · dsimp only; rw [List.length_set]; omega
      · exact .inl (by dsimp only; rw [List.length_set])
  | d + 1, T, i, L, ids, ctx, ⟨m, hm, h1, h2, cs, h3, h4, h5, h6, h7, h8, h9⟩, hp, hs, hr, hbig, hz => by
    obtain ⟨A, c, Bs, hcs, hAl, hA, hB, hpk⟩ := kid_part k h4 h6 h7
    subst hcs
    have hm4 := hz m hm
    have hkids : m.kids.length ≤ 4 := by unfold NodeM.size at hm4; rw [h1] at hm4; simpa using hm4
    have hkl : m.keys.length ≤ 3 := by rw [h3, List.length_map] at hkids; omega
    have eL : L = A.flatMap Kid.L ++ c.L ++ Bs.flatMap Kid.L := by rw [h8]; simp
    obtain ⟨hcr, mk0, hmk0, hf1, hf2⟩ := h5 c (by simp)
    have hp1 : (c.ids ++ (i :: A.flatMap Kid.ids ++ Bs.flatMap Kid.ids ++ ctx) ++ T.free).Perm (List.range T.nodes.length) := by
      refine List.Perm.trans ?_ hp
      rw [h9, List.perm_iff_count]
      intro a
      simp only [List.flatMap_append, List.flatMap_cons, List.cons_append, List.count_append, List.count_cons, List.append_assoc]
      omega
    rw [eL] at hs hr
    obtain ⟨T1, ids1, mk, mk1, g1, g2, g3, g4, g5, g6, g7, g8, g9, g10, g11⟩ := put_law hk d T c.id c.L c.ids (i :: A.flatMap Kid.ids ++ Bs.flatMap Kid.ids ++ ctx) hcr hp1 (sorted_mid hs) (right_mid hr) (by omega) (fun m' hm' => by rw [hmk0] at hm'; cases hm'; exact hf2)
    rw [hmk0] at g5; cases g5
    have hi1 : T1.nodes[i]? = some m := by rw [g4 i (by simp)]; exact hm
    have hkid : m.kids[belowF m.keys k]? = some c.id := by rw [h3, ← hAl, List.getElem?_map, List.getElem?_append_right (Nat.le_refl _), Nat.sub_self]; rfl
    have eI : insL L k v = (A ++ ⟨c.id, insL c.L k v, ids1⟩ :: Bs).flatMap Kid.L := by rw [eL, insL_mid hA hB]; simp
    have eH : hasK L k = hasK c.L k := by rw [eL, hasK_mid hA hB]
    have hse : Seps m.keys (A ++ ⟨c.id, insL c.L k v, ids1⟩ :: Bs) := h6.swap (p := (k, v)) (fun x hx => (mem_insL hx).imp (fun h => by rw [h]) (fun h => h)) hpk
    have hoth : ∀ c' ∈ A ++ Bs, Rep T1.nodes d c'.id c'.L c'.ids ∧ Fit T1.nodes c'.id := fun c' hc' => by
      have hsub : ∀ x ∈ c'.ids, T1.nodes[x]? = T.nodes[x]? := fun x hx => g4 x (by
        rcases List.mem_append.1 hc' with h | h
        · have : x ∈ A.flatMap Kid.ids := List.mem_flatMap.2 ⟨c', h, hx⟩
          simp only [List.cons_append, List.mem_cons, List.mem_append]; exact .inr (.inl (.inl this))
        · have : x ∈ Bs.flatMap Kid.ids := List.mem_flatMap.2 ⟨c', h, hx⟩
          simp only [List.cons_append, List.mem_cons, List.mem_append]; exact .inr (.inl (.inr this)))
      obtain ⟨hr', hf'⟩ := h5 c' (by rcases List.mem_append.1 hc' with h | h <;> simp [h])
      exact ⟨hr'.frame hsub, hf'.frame (hsub _ hr'.self)⟩
    have hlen' : (A ++ ⟨c.id, insL c.L k v, ids1⟩ :: Bs).length = m.keys.length + 1 := by rw [← h4]; simp
    have hmap' : m.kids = (A ++ ⟨c.id, insL c.L k v, ids1⟩ :: Bs).map Kid.id := by rw [h3]; simp
    by_cases hz1 : mk1.size ≤ 4
    · refine ⟨T1, i :: (A ++ ⟨c.id, insL c.L k v, ids1⟩ :: Bs).flatMap Kid.ids, m, m, ?_, ⟨m, hi1, h1, h2, A ++ ⟨c.id, insL c.L k v, ids1⟩ :: Bs, hmap', hlen', ?_, hse, h7, eI, rfl⟩, ?_, fun x hx => g4 x (by simp [hx]), hm, hi1, rfl, Nat.le_refl _, Nat.le_succ _, by omega, g11⟩
      · rw [eH]; exact TM.PutR.inner hm h1 (by omega) hkid g1 g6 hz1
      · intro c' hc'
        rcases List.mem_append.1 hc' with h | h
        · exact hoth c' (List.mem_append.2 (.inl h))
        · rcases List.mem_cons.1 h with rfl | h
          · exact ⟨g2, mk1, g6, by omega, hz1⟩
          · exact hoth c' (List.mem_append.2 (.inr h))
      · refine List.Perm.trans ?_ g3
        rw [List.perm_iff_count]
        intro a
        simp only [List.flatMap_append, List.flatMap_cons, List.cons_append, List.count_append, List.count_cons, List.append_assoc]
        omega
    · have hp3 : ((i :: (A ++ ⟨c.id, insL c.L k v, ids1⟩ :: Bs).flatMap Kid.ids) ++ ctx ++ T1.free).Perm (List.range T1.nodes.length) := by
        refine List.Perm.trans ?_ g3
        rw [List.perm_iff_count]
        intro a
        simp only [List.flatMap_append, List.flatMap_cons, List.cons_append, List.count_append, List.count_cons, List.append_assoc]
        omega
      obtain ⟨T3, ids3, m3, q1, q2, q3, q4, q5, q6, q7, q8, q9, _⟩ := split_law (c1 := ⟨c.id, insL c.L k v, ids1⟩) hi1 h1 h2 hmap' hlen' hoth g2 g6 (by omega) hse h7 (insL_sorted (sorted_mid hs)) hp3 (by omega) (by omega)
      refine ⟨T3, ids3, m, m3, ?_, by rw [eI]; exact q2, q3, fun x hx => (q4 x hx).trans (g4 x (by simp [hx])), hm, q5, by rw [q6, h1], by omega, by omega, by omega, ?_⟩
      · rw [eH]; exact TM.PutR.grown hm h1 (by omega) hkid g1 g6 (by omega) (by rw [← hAl]; exact q1)
      · rcases q9 with q9 | q9
        · rcases g11 with g | g
          · exact .inl (by omega)
          · refine .inr ?_
            have e1 := q3.length_eq
            have e2 := hp3.length_eq
            have e3 := g3.length_eq
            have hsf : T3.free.length ≤ T1.free.length := by
              obtain ⟨mi, kid, mk', sep, _, _, _, _, _, rfl⟩ := q1
              unfold TM.spl TM.slot
              split
              · simp
              · simp
            rw [g] at hsf
            exact List.length_eq_zero_iff.1 (by simpa using hsf)
        · exact .inr q9
end Go.Proofs.Ytjijemeabfiipaa
