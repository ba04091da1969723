/- The tree as data: a split. -/
import Derived.Test.YtjijemeabfiipaaBt2
namespace Go.Proofs.Ytjijemeabfiipaa
open Go.ChangeShapes Go.WideShapes Go.ChangeAt Go.RowKit
set_option maxRecDepth 100000
set_option linter.unusedSimpArgs false

theorem kid_split {nodes : List NodeM} {d kid : Nat} {L1 : PL} {ids1 : List Nat} {mk : NodeM} (hR : Rep nodes d kid L1 ids1) (hmk : nodes[kid]? = some mk) (hz : mk.size = 5) (hs : SortedL L1) (hnd : ids1.Nodup) :
    ∃ sep l1 l2 idlo idhi, mk.keys[mk.keys.length / 2]? = some sep ∧ L1 = l1 ++ l2 ∧ (∀ x ∈ l1, valCmp x.1 sep < 0) ∧ (∀ x ∈ l2, valCmp sep x.1 ≤ 0) ∧ l1 ≠ [] ∧ l2 ≠ [] ∧ 3 ≤ mk.keys.length ∧ mk.keys.length ≤ 1000 ∧
      (mk.leaf = true → mk.vals.length = mk.keys.length) ∧ (mk.leaf = false → mk.kids.length = mk.keys.length + 1) ∧
      (∀ nodes' nw, nodes'[kid]? = some mk.lo → nodes'[nw]? = some mk.hi → (∀ x ∈ ids1, x ≠ kid → nodes'[x]? = nodes[x]?) → Rep nodes' d kid l1 (kid :: idlo) ∧ Rep nodes' d nw l2 (nw :: idhi)) ∧
      ids1 = kid :: (idlo ++ idhi) ∧ mk.lo.size = (if mk.leaf then 2 else 3) ∧ mk.hi.size = (if mk.leaf then 3 else 2) := by
  cases d with
  | zero =>
    obtain ⟨m, hm, h1, h2, h3, h4, h5⟩ := hR
    rw [hmk] at hm; cases hm
    have hkl : mk.keys.length = 5 := by unfold NodeM.size at hz; rw [h1, if_pos rfl] at hz; exact hz
    have hsk : SortedK mk.keys := sortedK_of h3 (h4 ▸ hs)
    obtain ⟨sep, hsep⟩ : ∃ sep, mk.keys[2]? = some sep := ⟨_, List.getElem?_eq_getElem (by omega)⟩
    have hzl : (mk.keys.zip mk.vals).length = 5 := by rw [List.length_zip, h3, hkl]; rfl
    have h2l : (2 : Nat) < mk.keys.length := by omega
    refine ⟨sep, (mk.keys.zip mk.vals).take 2, (mk.keys.zip mk.vals).drop 2, [], [], by rw [hkl]; exact hsep, by rw [h4, List.take_append_drop], ?_, ?_, ?_, ?_, by omega, by omega, fun _ => h3, fun h => (by rw [h1] at h; cases h), ?_, by rw [h5]; rfl, ?_, ?_⟩
    · refine mem_take_get (fun j p hj hlt => ?_)
      have hg := zip_get hj
      have hjl := (List.getElem?_eq_some_iff.1 hg).1
      have := List.pairwise_iff_getElem.1 hsk j 2 hjl h2l hlt
      rw [List.getElem?_eq_getElem h2l] at hsep
      rw [List.getElem?_eq_getElem hjl] at hg
      rw [Option.some.inj hsep, Option.some.inj hg] at this
      exact this
    · refine mem_drop_get (fun j p hj hge => ?_)
      have hg := zip_get hj
      have hjl := (List.getElem?_eq_some_iff.1 hg).1
      rw [List.getElem?_eq_getElem h2l] at hsep
      by_cases he : j = 2
      · subst he
        rw [List.getElem?_eq_getElem h2l, hsep] at hg
        rw [Option.some.inj hg, cmp_self]
        exact Int.le_refl _
      · have := List.pairwise_iff_getElem.1 hsk 2 j h2l hjl (by omega)
        rw [List.getElem?_eq_getElem hjl] at hg
        rw [Option.some.inj hsep, Option.some.inj hg] at this
        omega
    · intro e; have := congrArg List.length e; rw [List.length_take, hzl] at this; simp at this
    · intro e; have := congrArg List.length e; rw [List.length_drop, hzl] at this; simp at this
    · intro nodes' nw hlo hhi _
      have hl5 : mk.vals.length = 5 := by omega
      refine ⟨⟨mk.lo, hlo, ?_⟩, ⟨mk.hi, hhi, ?_⟩⟩
      · simp only [NodeM.lo, h1, if_true, hkl]
        exact ⟨by trivial, h2, by rw [List.length_take, List.length_take, hkl, hl5], by rw [zip_take], by trivial⟩
      · simp only [NodeM.hi, h1, if_true, hkl]
        exact ⟨by trivial, by trivial, by rw [List.length_drop, List.length_drop, hkl, hl5], by rw [zip_drop], by trivial⟩
    · simp [NodeM.size, NodeM.lo, h1, hkl]
    · simp [NodeM.size, NodeM.hi, h1, hkl]
  | succ d =>
    obtain ⟨m, hm, h1, h2, cs, h3, h4, h5, h6, h7, h8, h9⟩ := hR
    rw [hmk] at hm; cases hm
    have hkid5 : mk.kids.length = 5 := by unfold NodeM.size at hz; rw [h1] at hz; simpa using hz
    have hcl : cs.length = 5 := by rw [h3, List.length_map] at hkid5; exact hkid5
    have hkl : mk.keys.length = 4 := by omega
    obtain ⟨sep, hsep⟩ : ∃ sep, mk.keys[2]? = some sep := ⟨_, List.getElem?_eq_getElem (by omega)⟩
    obtain ⟨g1, g2⟩ := h6 2 sep hsep
    have hne : ∀ c ∈ cs, c.L ≠ [] := fun c hc => by
      obtain ⟨hr, m', hm', hf, _⟩ := h5 c hc
      exact hr.some ⟨m', hm', by omega⟩
    have some_of : ∀ l : List Kid, l ≠ [] → (∀ c ∈ l, c ∈ cs) → l.flatMap Kid.L ≠ [] := fun l hl hsub e => by
      obtain ⟨c, hc⟩ := List.exists_mem_of_ne_nil _ hl
      obtain ⟨y, hy⟩ := List.exists_mem_of_ne_nil _ (hne c (hsub c hc))
      have : y ∈ l.flatMap Kid.L := List.mem_flatMap.2 ⟨c, hc, hy⟩
      rw [e] at this; cases this
    rw [h9] at hnd
    obtain ⟨hnk, _⟩ := List.nodup_cons.1 hnd
    refine ⟨sep, (cs.take 3).flatMap Kid.L, (cs.drop 3).flatMap Kid.L, (cs.take 3).flatMap Kid.ids, (cs.drop 3).flatMap Kid.ids, by rw [hkl]; exact hsep, ?_, g1, g2, ?_, ?_, by omega, by omega, fun h => (by rw [h1] at h; cases h), fun _ => by omega, ?_, ?_, ?_, ?_⟩
    · rw [h8, ← List.flatMap_append, List.take_append_drop]
    · exact some_of _ (fun e => by have := congrArg List.length e; rw [List.length_take, hcl] at this; simp at this) (fun c hc => List.mem_of_mem_take hc)
    · exact some_of _ (fun e => by have := congrArg List.length e; rw [List.length_drop, hcl] at this; simp at this) (fun c hc => List.mem_of_mem_drop hc)
    · intro nodes' nw hlo hhi hf
      have hf' : ∀ c ∈ cs, Rep nodes' d c.id c.L c.ids ∧ Fit nodes' c.id := fun c hc => by
        have hsub : ∀ x ∈ c.ids, nodes'[x]? = nodes[x]? := fun x hx => by
          have hm : x ∈ cs.flatMap Kid.ids := List.mem_flatMap.2 ⟨c, hc, hx⟩
          exact hf x (by rw [h9]; exact List.mem_cons_of_mem _ hm) (fun e => hnk (e ▸ hm))
        obtain ⟨hr, hfi⟩ := h5 c hc
        exact ⟨hr.frame hsub, hfi.frame (hsub _ hr.self)⟩
      refine ⟨⟨mk.lo, hlo, ?_⟩, ⟨mk.hi, hhi, ?_⟩⟩
      · simp only [NodeM.lo, h1, hkl]
        refine ⟨by trivial, h2, cs.take 3, by rw [h3, List.map_take]; rfl, ?_, fun c hc => hf' c (List.mem_of_mem_take hc), h6.take 2, h7.sublist (List.take_sublist _ _), rfl, rfl⟩
        simp [hkl, hcl]
      · simp only [NodeM.hi, h1, hkl]
        refine ⟨by trivial, by trivial, cs.drop 3, by rw [h3, List.map_drop]; rfl, ?_, fun c hc => hf' c (List.mem_of_mem_drop hc), h6.drop 3, h7.sublist (List.drop_sublist _ _), rfl, rfl⟩
        simp [hkl, hcl]
    · rw [h9, ← List.flatMap_append, List.take_append_drop]
    · simp [NodeM.size, NodeM.lo, h1, hkl, hkid5]
    · simp [NodeM.size, NodeM.hi, h1, hkl, hkid5]

theorem split_law {T : TM} {d i : Nat} {m mk : NodeM} {A Bs : List Kid} {c1 : Kid} {ctx : List Nat} (hi : T.nodes[i]? = some m) (hl : m.leaf = false) (hv : m.vals = []) (hk : m.kids = (A ++ c1 :: Bs).map Kid.id) (hlen : (A ++ c1 :: Bs).length = m.keys.length + 1)
    (hA : ∀ c ∈ A ++ Bs, Rep T.nodes d c.id c.L c.ids ∧ Fit T.nodes c.id) (h1 : Rep T.nodes d c1.id c1.L c1.ids) (hmk : T.nodes[c1.id]? = some mk) (hz : mk.size = 5) (hse : Seps m.keys (A ++ c1 :: Bs)) (hsk : SortedK m.keys) (hsL : SortedL c1.L)
    (hp : ((i :: (A ++ c1 :: Bs).flatMap Kid.ids) ++ ctx ++ T.free).Perm (List.range T.nodes.length)) (hbig : T.nodes.length ≤ 1000000) (hkb : m.keys.length ≤ 1000) :
    ∃ T3 ids3 m3, T.Split i A.length T3 ∧ Rep T3.nodes (d + 1) i ((A ++ c1 :: Bs).flatMap Kid.L) ids3 ∧ (ids3 ++ ctx ++ T3.free).Perm (List.range T3.nodes.length) ∧ (∀ x ∈ ctx, T3.nodes[x]? = T.nodes[x]?) ∧ T3.nodes[i]? = some m3 ∧ m3.leaf = false ∧ m3.size = m.size + 1 ∧
      T3.nodes.length ≤ T.nodes.length + 1 ∧ (T3.nodes.length = T.nodes.length ∨ T3.free = []) ∧ T3.k = T.k := by
  obtain ⟨q1, q2, q3, q4, q5, q6, q7, q8, q9⟩ := slot_law (b := mk.leaf) hp
  have hnd : ((i :: (A ++ c1 :: Bs).flatMap Kid.ids) ++ ctx ++ T.free).Nodup := hp.nodup_iff.2 List.nodup_range
  obtain ⟨hnd0, _, hnd4⟩ := List.nodup_append.1 hnd
  obtain ⟨hnd1, _, hnd3⟩ := List.nodup_append.1 hnd0
  obtain ⟨hni, hnd2⟩ := List.nodup_cons.1 hnd1
  rw [List.flatMap_append, List.flatMap_cons] at hnd2 hni
  have hnc1 : c1.ids.Nodup := (List.nodup_append.1 (List.nodup_append.1 hnd2).2.1).1
  obtain ⟨sep, l1, l2, idlo, idhi, hsep, hL, hl1, hl2, hn1, hn2, hk3, hkb2, hlv, hlk, hre, hids, hslo, hshi⟩ := kid_split h1 hmk hz hsL hnc1
  obtain ⟨nw, T2, hsl⟩ : ∃ nw T2, T.slot mk.leaf = (nw, T2) := ⟨_, _, rfl⟩
  have hkm : c1.id ∈ c1.ids := h1.self
  have hik : i ≠ c1.id := fun e => hni (by rw [e]; exact List.mem_append.2 (.inr (List.mem_append.2 (.inl hkm))))
  rw [hsl] at q1 q2 q3 q4 q5 q7
  dsimp only at q1 q2 q3 q4 q5 q7
  have hT2k : T2.k = T.k := by have := slot_k T mk.leaf; rw [hsl] at this; exact this
  have hmemall : ∀ c ∈ A ++ c1 :: Bs, ∀ x ∈ c.ids, x ∈ (i :: (A ++ c1 :: Bs).flatMap Kid.ids) ++ ctx := fun c hc x hx => List.mem_append.2 (.inl (List.mem_cons_of_mem _ (List.mem_flatMap.2 ⟨c, hc, hx⟩)))
  have hmi : i ∈ (i :: (A ++ c1 :: Bs).flatMap Kid.ids) ++ ctx := List.mem_append.2 (.inl (List.mem_cons_self ..))
  have hmk1 : c1.id ∈ (i :: (A ++ c1 :: Bs).flatMap Kid.ids) ++ ctx := hmemall c1 (by simp) _ hkm
  have hnwi : nw ≠ i := fun e => q3 (by rw [e]; exact hmi)
  have hnwk : nw ≠ c1.id := fun e => q3 (by rw [e]; exact hmk1)
  have hsz : ∀ x ∈ (i :: (A ++ c1 :: Bs).flatMap Kid.ids) ++ ctx, x < T2.nodes.length := fun x hx => by
    have := q1.mem_iff.1 (List.mem_append.2 (.inl (List.mem_cons_of_mem nw hx)))
    exact List.mem_range.1 this
  -- the nodes behind the split
  have hn3 : ∀ x, (T2.spl nw i c1.id A.length m mk sep).nodes[x]? = if i = x then some { m with keys := insAt m.keys A.length sep, kids := insAt m.kids (A.length + 1) nw } else if c1.id = x then some mk.lo else if nw = x then some mk.hi else T2.nodes[x]? := by
    intro x
    unfold TM.spl
    dsimp only
    rw [List.getElem?_set, List.length_set, List.length_set]
    by_cases e1 : i = x
    · rw [if_pos e1, if_pos e1, if_pos (hsz i hmi)]
    · rw [if_neg e1, if_neg e1, List.getElem?_set, List.length_set]
      by_cases e2 : c1.id = x
      · rw [if_pos e2, if_pos e2, if_pos (hsz _ hmk1)]
      · rw [if_neg e2, if_neg e2, List.getElem?_set]
        by_cases e3 : nw = x
        · rw [if_pos e3, if_pos e3, if_pos q7]
        · rw [if_neg e3, if_neg e3]
  have hold : ∀ x ∈ (i :: (A ++ c1 :: Bs).flatMap Kid.ids) ++ ctx, x ≠ i → x ≠ c1.id → (T2.spl nw i c1.id A.length m mk sep).nodes[x]? = T.nodes[x]? := fun x hx h1 h2 => by
    rw [hn3, if_neg (Ne.symm h1), if_neg (Ne.symm h2), if_neg (fun e => q3 (by rw [e]; exact hx)), q2 x hx]
  obtain ⟨r1, r2⟩ := hre (T2.spl nw i c1.id A.length m mk sep).nodes nw (by rw [hn3, if_neg hik, if_pos rfl]) (by rw [hn3, if_neg (Ne.symm hnwi), if_neg (Ne.symm hnwk), if_pos rfl]) (fun x hx hne => by
    refine hold x (hmemall c1 (by simp) x hx) (fun e => hni ?_) hne
    rw [← e]; exact List.mem_append.2 (.inr (List.mem_append.2 (.inl hx))))
  have hcA : m.kids[A.length]? = some c1.id := by rw [hk, List.getElem?_map, List.getElem?_append_right (Nat.le_refl _), Nat.sub_self]; rfl
  simp only [List.length_append, List.length_cons] at hlen
  obtain ⟨se1, se2⟩ := Seps.split (k1 := ⟨c1.id, l1, c1.id :: idlo⟩) (k2 := ⟨nw, l2, nw :: idhi⟩) (sep := sep) (by simp; omega) hse hsk hL hl1 hl2 hn1 hn2
  have hfit1 : Fit (T2.spl nw i c1.id A.length m mk sep).nodes c1.id := ⟨mk.lo, by rw [hn3, if_neg hik, if_pos rfl], by rw [hslo]; split <;> omega, by rw [hslo]; split <;> omega⟩
  have hfit2 : Fit (T2.spl nw i c1.id A.length m mk sep).nodes nw := ⟨mk.hi, by rw [hn3, if_neg (Ne.symm hnwi), if_neg (Ne.symm hnwk), if_pos rfl], by rw [hshi]; split <;> omega, by rw [hshi]; split <;> omega⟩
  have hothers : ∀ c ∈ A ++ Bs, Rep (T2.spl nw i c1.id A.length m mk sep).nodes d c.id c.L c.ids ∧ Fit (T2.spl nw i c1.id A.length m mk sep).nodes c.id := fun c hc => by
    have hcm : c ∈ A ++ c1 :: Bs := by rcases List.mem_append.1 hc with h | h <;> simp [h]
    have hsub : ∀ x ∈ c.ids, (T2.spl nw i c1.id A.length m mk sep).nodes[x]? = T.nodes[x]? := fun x hx => by
      refine hold x (hmemall c hcm x hx) (fun e => hni ?_) (fun e => ?_)
      · rw [← e, ← List.flatMap_cons, ← List.flatMap_append]; exact List.mem_flatMap.2 ⟨c, hcm, hx⟩
      · subst e
        obtain ⟨u1, u2, u3⟩ := List.nodup_append.1 hnd2
        obtain ⟨v1, v2, v3⟩ := List.nodup_append.1 u2
        rcases List.mem_append.1 hc with h | h
        · exact u3 _ (List.mem_flatMap.2 ⟨c, h, hx⟩) _ (List.mem_append.2 (.inl hkm)) rfl
        · exact v3 _ hkm _ (List.mem_flatMap.2 ⟨c, h, hx⟩) rfl
    obtain ⟨hr, hf⟩ := hA c hc
    exact ⟨hr.frame hsub, hf.frame (hsub _ hr.self)⟩
  refine ⟨T2.spl nw i c1.id A.length m mk sep, i :: (A ++ ⟨c1.id, l1, c1.id :: idlo⟩ :: ⟨nw, l2, nw :: idhi⟩ :: Bs).flatMap Kid.ids, { m with keys := insAt m.keys A.length sep, kids := insAt m.kids (A.length + 1) nw }, ?_, ?_, ?_, ?_, by rw [hn3, if_pos rfl], hl, ?_, ?_, ?_, ?_⟩
  · refine ⟨m, c1.id, mk, sep, hi, hcA, hmk, hsep, ⟨hik, fun x hx => ⟨(q6 x hx).1, fun e => (q6 x hx).2 (by rw [e]; exact hmi), fun e => (q6 x hx).2 (by rw [e]; exact hmk1)⟩, hbig, by omega, hkb2, by omega, by rw [hk, List.length_map]; simp; omega, hkb, hk3, hlv, hlk⟩, by rw [hsl]⟩
  · refine ⟨{ m with keys := insAt m.keys A.length sep, kids := insAt m.kids (A.length + 1) nw }, by rw [hn3, if_pos rfl], hl, hv, A ++ ⟨c1.id, l1, c1.id :: idlo⟩ :: ⟨nw, l2, nw :: idhi⟩ :: Bs, ?_, ?_, ?_, se1, se2, ?_, rfl⟩
    · dsimp only
      unfold insAt
      rw [hk, List.map_append, List.map_cons]
      have e1 : A.length + 1 = (A.map Kid.id ++ [c1.id]).length := by simp
      have e2 : A.map Kid.id ++ c1.id :: Bs.map Kid.id = (A.map Kid.id ++ [c1.id]) ++ Bs.map Kid.id := by simp
      rw [e2, e1, List.take_left, List.drop_left]
      simp
    · dsimp only; rw [insAt_len]; simp; omega
    · intro c hc
      rcases List.mem_append.1 hc with h | h
      · exact hothers c (List.mem_append.2 (.inl h))
      · rcases List.mem_cons.1 h with rfl | h
        · exact ⟨r1, hfit1⟩
        · rcases List.mem_cons.1 h with rfl | h
          · exact ⟨r2, hfit2⟩
          · exact hothers c (List.mem_append.2 (.inr h))
    · simp only [List.flatMap_append, List.flatMap_cons, hL, List.append_assoc]
  · have hlen3 : (T2.spl nw i c1.id A.length m mk sep).nodes.length = T2.nodes.length := by unfold TM.spl; simp
    have hfree3 : (T2.spl nw i c1.id A.length m mk sep).free = T2.free := rfl
    rw [hlen3, hfree3]
    refine List.Perm.trans ?_ q1
    rw [List.perm_iff_count]
    intro a
    simp only [List.flatMap_append, List.flatMap_cons, hids, List.cons_append, List.count_append, List.count_cons, List.append_assoc]
    omega
  · intro x hx
    refine hold x (List.mem_append.2 (.inr hx)) (fun e => ?_) (fun e => ?_)
    · exact hnd3 _ (List.mem_cons_self ..) _ hx e.symm
    · exact hnd3 _ (List.mem_cons_of_mem _ (List.mem_flatMap.2 ⟨c1, by simp, hkm⟩)) _ hx e.symm
  · unfold NodeM.size
    dsimp only
    rw [hl]
    simp [insAt_len]
  · unfold TM.spl; simp; omega
  · unfold TM.spl; simp; exact q5
  · unfold TM.spl; exact hT2k
end Go.Proofs.Ytjijemeabfiipaa
