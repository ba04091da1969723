/- Of no program: a region that draws its order, walked along a tree: what only reads comes first; where several operations that turn the world may come up, each of them is walked. -/
import Derived.Test.YtjijemeabfiipaaCanon
namespace Go.Proofs.Ytjijemeabfiipaa
open Go.ChangeShapes Go.WideShapes Go.ChangeAt Go.RowKit

/-- nil: the end; rd i k t: operation i reads, asked until k; ef i t m: operation i turns the world, then t; m: the other ones that may come up at the same time -/
inductive Tr where
  | nil
  | rd (i k : Nat) (t : Tr)
  | ef (i : Nat) (t m : Tr)

section
variable {P : Program} {ops : Array Oper} {Q : Exit → Act → World → Prop}

mutual
def wpTr (P : Program) (ops : Array Oper) (Q : Exit → Act → World → Prop) : Tr → List Pend → Act → World → Prop
  | .nil, _, a, w => Q .normal a w
  | .rd i k t, pend, a, w => ∃ o, ops[i]? = some o ∧
    if Region.wanted o (yielded ops a.tmps) then o.still P a w (fun b => wpTr P ops Q t (⟨o, a, b, k⟩ :: pend) b w) else wpTr P ops Q t (⟨o, a, a, k⟩ :: pend) (a.put o.dst undef) w
  | .ef i t m, pend, a, w => (∃ o, ops[i]? = some o ∧ wpList P ops (effQ Q fun b w' => allOk P ops i pend w' ∧ wpTr P ops Q t (keepPend i pend) b w') [o] a w) ∧ wpAlt P ops Q m pend a w
def wpAlt (P : Program) (ops : Array Oper) (Q : Exit → Act → World → Prop) : Tr → List Pend → Act → World → Prop
  | .nil, _, _, _ => True
  | .rd _ _ _, _, _, _ => True
  | .ef i t m, pend, a, w => (∃ o, ops[i]? = some o ∧ wpList P ops (effQ Q fun b w' => allOk P ops i pend w' ∧ wpTr P ops Q t (keepPend i pend) b w') [o] a w) ∧ wpAlt P ops Q m pend a w
end

theorem wpTr_nil {pend : List Pend} {a : Act} {w : World} (h : Q .normal a w) : wpTr P ops Q .nil pend a w := by unfold wpTr; exact h
theorem wpTr_read {i k : Nat} {t : Tr} {pend : List Pend} {a : Act} {w : World} {o : Oper} (ho : ops[i]? = some o) (hg : o.guard = none)
    (h : ∀ K : Act → Prop, (∀ b, wpTr P ops Q t (⟨o, a, b, k⟩ :: pend) b w → K b) → o.still P a w K) : wpTr P ops Q (.rd i k t) pend a w := by
  unfold wpTr
  refine ⟨o, ho, ?_⟩
  rw [if_pos (by simp [Region.wanted, hg])]
  exact h _ (fun _ h => h)
theorem wpTr_yes {i k : Nat} {t : Tr} {pend : List Pend} {a : Act} {w : World} {o : Oper} (ho : ops[i]? = some o) (hg : Region.wanted o (yielded ops a.tmps) = true)
    (h : ∀ K : Act → Prop, (∀ b, wpTr P ops Q t (⟨o, a, b, k⟩ :: pend) b w → K b) → o.still P a w K) : wpTr P ops Q (.rd i k t) pend a w := by
  unfold wpTr
  refine ⟨o, ho, ?_⟩
  rw [if_pos hg]
  exact h _ (fun _ h => h)
theorem wpTr_no {i k : Nat} {t : Tr} {pend : List Pend} {a : Act} {w : World} {o : Oper} (ho : ops[i]? = some o) (hg : Region.wanted o (yielded ops a.tmps) = false)
    (h : wpTr P ops Q t (⟨o, a, a, k⟩ :: pend) (a.put o.dst undef) w) : wpTr P ops Q (.rd i k t) pend a w := by
  unfold wpTr
  refine ⟨o, ho, ?_⟩
  rw [if_neg (by simp [hg])]
  exact h
/-- one that turns the world, and no other may come up -/
theorem wpTr_eff {i : Nat} {t : Tr} {pend : List Pend} {a : Act} {w : World} {o : Oper} (ho : ops[i]? = some o)
    (h : wpList P ops (effQ Q fun b w' => allOk P ops i pend w' ∧ wpTr P ops Q t (keepPend i pend) b w') [o] a w) : wpTr P ops Q (.ef i t .nil) pend a w := by
  unfold wpTr
  exact ⟨⟨o, ho, h⟩, by unfold wpAlt; trivial⟩
/-- one of two -/
theorem wpTr_two {i j : Nat} {t u : Tr} {pend : List Pend} {a : Act} {w : World} {o o' : Oper} (ho : ops[i]? = some o) (ho' : ops[j]? = some o')
    (h : wpList P ops (effQ Q fun b w' => allOk P ops i pend w' ∧ wpTr P ops Q t (keepPend i pend) b w') [o] a w)
    (h' : wpList P ops (effQ Q fun b w' => allOk P ops j pend w' ∧ wpTr P ops Q u (keepPend j pend) b w') [o'] a w) : wpTr P ops Q (.ef i t (.ef j u .nil)) pend a w := by
  unfold wpTr
  refine ⟨⟨o, ho, h⟩, ?_⟩
  unfold wpAlt
  exact ⟨⟨o', ho', h'⟩, by unfold wpAlt; trivial⟩
/-- one of three -/
theorem wpTr_three {i j k : Nat} {t u v : Tr} {pend : List Pend} {a : Act} {w : World} {o o' o'' : Oper} (ho : ops[i]? = some o) (ho' : ops[j]? = some o') (ho'' : ops[k]? = some o'')
    (h : wpList P ops (effQ Q fun b w' => allOk P ops i pend w' ∧ wpTr P ops Q t (keepPend i pend) b w') [o] a w)
    (h' : wpList P ops (effQ Q fun b w' => allOk P ops j pend w' ∧ wpTr P ops Q u (keepPend j pend) b w') [o'] a w)
    (h'' : wpList P ops (effQ Q fun b w' => allOk P ops k pend w' ∧ wpTr P ops Q v (keepPend k pend) b w') [o''] a w) : wpTr P ops Q (.ef i t (.ef j u (.ef k v .nil))) pend a w := by
  unfold wpTr
  refine ⟨⟨o, ho, h⟩, ?_⟩
  unfold wpAlt
  refine ⟨⟨o', ho', h'⟩, ?_⟩
  unfold wpAlt
  exact ⟨⟨o'', ho'', h''⟩, by unfold wpAlt; trivial⟩

/-! ### that it is so for every order -/
def trEffs : Tr → List Nat
  | .ef i _ m => i :: trEffs m
  | _ => []

mutual
def trOk (ops : Array Oper) (effs : List Nat) : Tr → Nat → Array Bool → Bool
  | .nil, 0, listed => (Region.ready .any ops listed).isEmpty
  | .nil, _ + 1, _ => false
  | .rd _ _ _, 0, _ => false
  | .rd i k t, n + 1, listed => (Region.ready .any ops listed).contains i && Region.free .any ops listed i && !effs.contains i && (decide (ops.size ≤ k) || (effs.contains k && waits ops ops.size k i)) && trOk ops effs t n (listed.setIfInBounds i true)
  | .ef _ _ _, 0, _ => false
  | .ef i t m, n + 1, listed => decide (Region.ready .any ops listed = i :: trEffs m) && effs.contains i && trOk ops effs t n (listed.setIfInBounds i true) && altOk ops effs m n listed
def altOk (ops : Array Oper) (effs : List Nat) : Tr → Nat → Array Bool → Bool
  | .nil, _, _ => true
  | .rd _ _ _, _, _ => false
  | .ef i t m, n, listed => effs.contains i && trOk ops effs t n (listed.setIfInBounds i true) && altOk ops effs m n listed
end

theorem eff_op {Qn : Exit → Act → World → Prop} (hout : ∀ a w, Q .outgrown a w → Qn .outgrown a w) {t : Tr} {n j : Nat} {pend : List Pend} {listed : Array Bool} {a : Act} {w : World} {o : Oper} (ho : ops[j]? = some o)
    (hj : j ∈ Region.ready .any ops listed) (hsz : listed.size = ops.size) (hc : ClosedL ops listed)
    (IH : ∀ b w', SP P ops (keepPend j pend) (listed.setIfInBounds j true) w' → wpTr P ops Q t (keepPend j pend) b w' → wpAnyE P ops Qn (SP P ops (keepPend j pend)) n (listed.setIfInBounds j true) b w')
    (h : wpList P ops (effQ Q fun b w' => allOk P ops j pend w' ∧ wpTr P ops Q t (keepPend j pend) b w') [o] a w) :
    wpOp P ops Qn j (fun a' w' => SP P ops pend (listed.setIfInBounds j true) w' ∧ wpAnyE P ops Qn (SP P ops pend) n (listed.setIfInBounds j true) a' w') a w := by
  have hc' := hc.set hj
  have hsz' : (listed.setIfInBounds j true).size = ops.size := by simpa using hsz
  have hjlt : j < listed.size := by rw [hsz]; exact (Array.getElem?_eq_some_iff.1 ho).1
  have fin : ∀ b w', (allOk P ops j pend w' ∧ wpTr P ops Q t (keepPend j pend) b w') →
      SP P ops pend (listed.setIfInBounds j true) w' ∧ wpAnyE P ops Qn (SP P ops pend) n (listed.setIfInBounds j true) b w' := by
    intro b w' ⟨h1, h2⟩
    have hlist : (listed.setIfInBounds j true).getD j false = true := by simp [hjlt]
    have hSP : SP P ops pend (listed.setIfInBounds j true) w' := fun x hx hl => by
      by_cases hxj : x.k = j
      · rw [hxj, hlist] at hl; cases hl
      · exact allOk_mem h1 hx hxj
    refine ⟨hSP, ?_⟩
    have hk2 : SP P ops (keepPend j pend) (listed.setIfInBounds j true) w' := fun x hx hl => hSP x (keepPend_mem hx).1 hl
    have ih := IH b w' hk2 h2
    refine wpAnyE_mono (G := fun l => l.getD j false = true) (fun l i hl => getD_set_true hl) (fun l w hl hh x hx hxl => ?_) _ _ _ _ hlist ih
    by_cases hxj : x.k = j
    · rw [hxj, hl] at hxl; cases hxl
    · exact hh x (mem_keepPend hx hxj) hxl
  unfold wpOp
  simp only [ho]
  unfold wpList at h
  split
  · rename_i hwt
    rw [if_pos hwt] at h
    rcases h with h | ⟨h1, b, w', h2⟩
    · refine .inl ?_
      unfold Oper.wp at *
      generalize (execOp a.eval o).run P w = r at *
      cases r with
      | ok n w' =>
        cases n <;> simp only [Oper.upon] at h ⊢
        case value u => exact fin _ _ h
        case skip => exact fin _ _ h
        case defer d => exact fin _ _ h
        case enter f args =>
          refine Calls.mono h fun e w'' he => ?_
          cases e with
          | returned u => exact fin _ _ he
          | panicked c => exact (he : False).elim
          | outgrown => obtain ⟨b, w3, h3⟩ := he; exact ⟨b, w3, hout _ _ h3⟩
        case row row args => exact Rows.mono h fun u w'' he => fin _ _ he
      | halt x w' =>
        cases x <;> simp only [Oper.upon] at h ⊢
        case panic u => exact (h : False).elim
    · exact .inr ⟨h1, b, w', hout _ _ h2⟩
  · rename_i hwt
    rw [if_neg hwt] at h
    exact fin _ _ h


mutual
theorem wpTr_any (hs : Region.noSelect ops = true) {Qn : Exit → Act → World → Prop} (hnorm : ∀ a w, Q .normal a w → Qn .normal a w) (hout : ∀ a w, Q .outgrown a w → Qn .outgrown a w)
    (hQ : ∀ c (a : Act) (d : Option Tmp) (v : Value) (w : World), Qn (.panic c) (a.put d v) w → Qn (.panic c) a w) (effs : List Nat) :
    ∀ (t : Tr) (n : Nat) (pend : List Pend) (listed : Array Bool) (a : Act) (w : World), trOk ops effs t n listed = true → listed.size = ops.size → ClosedL ops listed →
      (∀ x ∈ pend, ops.size ≤ x.k ∨ effs.contains x.k = true) → SP P ops pend listed w → wpTr P ops Q t pend a w → wpAnyE P ops Qn (SP P ops pend) n listed a w
  | .nil, 0, pend, listed, a, w, hB, _, _, _, _, h => ⟨by simpa [trOk] using hB, hnorm _ _ (by unfold wpTr at h; exact h)⟩
  | .nil, _ + 1, _, _, _, _, hB, _, _, _, _, _ => by simp [trOk] at hB
  | .rd _ _ _, 0, _, _, _, _, hB, _, _, _, _, _ => by simp [trOk] at hB
  | .ef _ _ _, 0, _, _, _, _, hB, _, _, _, _, _ => by simp [trOk] at hB
  | .rd i k t, n + 1, pend, listed, a, w, hB, hsz, hc, hp, hS, h => by
    simp only [trOk, Bool.and_eq_true, Bool.or_eq_true, decide_eq_true_eq, Bool.not_eq_true'] at hB
    obtain ⟨⟨⟨⟨hr, hf⟩, hne⟩, hk⟩, hB'⟩ := hB
    unfold wpTr at h
    obtain ⟨o, ho, h⟩ := h
    have hr' : i ∈ Region.ready .any ops listed := by simpa using hr
    have hilt : i < ops.size := (Array.getElem?_eq_some_iff.1 ho).1
    have hki : k ≠ i := fun e => by subst e; rcases hk with hk | hk; · omega
                                    · rw [hne] at hk; cases hk.1
    have hpk : ∀ x ∈ pend, x.k ≠ i := fun x hx e => by
      rcases hp x hx with h1 | h1
      · omega
      · rw [e, hne] at h1; cases h1
    have hw : k < ops.size → ∃ n, waits ops n k i = true := fun hlt => by
      rcases hk with hk | hk
      · omega
      · exact ⟨_, hk.2⟩
    have hc' := hc.set hr'
    have step : ∀ (b0 : Act) (v : Value), (Region.wanted o (yielded ops a.tmps) = true → b0 = a.put o.dst v) → (Region.wanted o (yielded ops a.tmps) = false → v = undef) → YieldsAt P ops w o v a →
        (⟨o, a, b0, k⟩ : Pend).ok P ops w → wpTr P ops Q t (⟨o, a, b0, k⟩ :: pend) (a.put o.dst v) w → wpAnyE P ops Qn (SP P ops pend) (n + 1) listed a w := by
      intro b0 v hb0 hv hy hok hrest
      refine take_E ho (Region.noSelect_spec hs) hb0 hv hki hpk hw (fun c a w => hQ c a _ _ w) n listed a w hsz hc (Region.free_spec ho hf) hr' ⟨rfl, rfl, rfl⟩ ⟨v, hy, rfl⟩ hS ?_
      refine wpTr_any hs hnorm hout hQ effs t n _ _ _ _ hB' (by simpa using hsz) hc' (fun x hx => ?_) (fun x hx hl => ?_) hrest
      · rcases List.mem_cons.1 hx with rfl | hx
        · rcases hk with hk | hk
          · exact .inl hk
          · exact .inr hk.1
        · exact hp x hx
      · rcases List.mem_cons.1 hx with rfl | hx
        · exact hok
        · refine hS x hx ?_
          rw [getD_set_ne false (Ne.symm (hpk x hx))] at hl
          exact hl
    by_cases hwt : Region.wanted o (yielded ops a.tmps) = true
    · rw [if_pos hwt] at h
      obtain ⟨v, hy, hK⟩ := yieldsAt_of_stOp (ops := ops) ho (stOp_of (ops := ops) ho (by rw [if_pos hwt]; exact h))
      refine step (a.put o.dst v) v (fun _ => rfl) (fun e => by rw [hwt] at e; cases e) hy ?_ hK
      have := hy.stOp ho (K := fun b => b = a.put o.dst v) rfl
      unfold stOp at this
      simp only [ho] at this
      unfold Pend.ok
      rw [if_pos hwt] at this ⊢
      exact this
    · have hwf : Region.wanted o (yielded ops a.tmps) = false := by simpa using hwt
      rw [if_neg hwt] at h
      exact step a undef (fun e => absurd e hwt) (fun _ => rfl) (.inr ⟨hwf, rfl⟩) (by unfold Pend.ok; rw [if_neg hwt]; trivial) h

  | .ef i t m, n + 1, pend, listed, a, w, hB, hsz, hc, hp, hS, h => by
    simp only [trOk, Bool.and_eq_true, decide_eq_true_eq] at hB
    obtain ⟨⟨⟨hr, he⟩, hB'⟩, hBm⟩ := hB
    unfold wpTr at h
    obtain ⟨⟨o, ho, h⟩, hm⟩ := h
    refine ⟨fun h0 => (by rw [h0] at hr; cases hr), fun j hj => ?_⟩
    by_cases hji : j = i
    · subst hji
      have hc' := hc.set hj
      exact eff_op hout ho hj hsz hc (fun b w' hk2 h2 => wpTr_any hs hnorm hout hQ effs t n _ _ _ _ hB' (by simpa using hsz) hc' (fun x hx => hp x (keepPend_mem hx).1) hk2 h2) h
    · have hjm : j ∈ trEffs m := by rw [hr] at hj; simpa [hji] using hj
      exact wpAlt_any hs hnorm hout hQ effs m n pend listed a w hBm hsz hc hp (fun q hq => by rw [hr]; exact List.mem_cons_of_mem _ hq) hm j hjm
theorem wpAlt_any (hs : Region.noSelect ops = true) {Qn : Exit → Act → World → Prop} (hnorm : ∀ a w, Q .normal a w → Qn .normal a w) (hout : ∀ a w, Q .outgrown a w → Qn .outgrown a w)
    (hQ : ∀ c (a : Act) (d : Option Tmp) (v : Value) (w : World), Qn (.panic c) (a.put d v) w → Qn (.panic c) a w) (effs : List Nat) :
    ∀ (m : Tr) (n : Nat) (pend : List Pend) (listed : Array Bool) (a : Act) (w : World), altOk ops effs m n listed = true → listed.size = ops.size → ClosedL ops listed →
      (∀ x ∈ pend, ops.size ≤ x.k ∨ effs.contains x.k = true) → (∀ q ∈ trEffs m, q ∈ Region.ready .any ops listed) → wpAlt P ops Q m pend a w →
      ∀ j ∈ trEffs m, wpOp P ops Qn j (fun a' w' => SP P ops pend (listed.setIfInBounds j true) w' ∧ wpAnyE P ops Qn (SP P ops pend) n (listed.setIfInBounds j true) a' w') a w
  | .nil, _, _, _, _, _, _, _, _, _, _, _, j, hj => by simp [trEffs] at hj
  | .rd _ _ _, _, _, _, _, _, _, _, _, _, _, _, j, hj => by simp [trEffs] at hj
  | .ef i t m, n, pend, listed, a, w, hB, hsz, hc, hp, hr, h, j, hj => by
    simp only [altOk, Bool.and_eq_true] at hB
    obtain ⟨⟨he, hB'⟩, hBm⟩ := hB
    unfold wpAlt at h
    obtain ⟨⟨o, ho, h⟩, hm⟩ := h
    by_cases hji : j = i
    · subst hji
      have hjr := hr j hj
      have hc' := hc.set hjr
      exact eff_op hout ho hjr hsz hc (fun b w' hk2 h2 => wpTr_any hs hnorm hout hQ effs t n _ _ _ _ hB' (by simpa using hsz) hc' (fun x hx => hp x (keepPend_mem hx).1) hk2 h2) h
    · have hjm : j ∈ trEffs m := by simpa [trEffs, hji] using hj
      exact wpAlt_any hs hnorm hout hQ effs m n pend listed a w hBm hsz hc hp (fun q hq => hr q (by simp [trEffs, hq])) hm j hjm
end

/-- A REGION THAT DRAWS ITS ORDER, WALKED ALONG A TREE. -/
theorem wp_region_tr {id : Nat} {a : Act} {w : World} {l : List Oper} (t : Tr) (effs : List Nat) (hm : P.follows .mixedOrders = true)
    (hB : (Region.noSelect l.toArray && trOk l.toArray effs t l.length (Array.replicate l.toArray.size false)) = true)
    (h : wpTr P l.toArray Q t [] a w.drew) : (Code.region id l.toArray true).wp P Q a w := by
  simp only [Bool.and_eq_true] at hB
  obtain ⟨hs, hB⟩ := hB
  have key : wpAnyE P l.toArray (NoPanic Q) (SP P l.toArray []) l.length (Array.replicate l.toArray.size false) a w.drew := by
    refine wpTr_any (Q := Q) (Qn := NoPanic Q) hs (fun _ _ h => h) (fun _ _ h => h) (fun c a d v w h => (h : False).elim) effs t l.length [] _ a _ hB (by simp) (fun j o hj hl => ?_) (fun x hx => by cases hx) (fun x hx => by cases hx) h
    rw [getD_replicate_false] at hl
    cases hl
  have hz : l.length = l.toArray.size := by simp
  rw [hz] at key
  exact wp_region_noPanic (wp_region_any hm (wpAny_of_E _ _ _ _ key))

/-! ### one operation that turns the world -/
theorem wpList_do {a : Act} {w : World} {rest : List Oper} {o : Oper} (hw : Region.wanted o (yielded ops a.tmps) = true) (h : ∀ K : Act → World → Prop, (∀ b w', wpList P ops Q rest b w' → K b w') → o.wp P a w K Q) : wpList P ops Q (o :: rest) a w := by
  unfold wpList
  rw [if_pos hw]
  exact .inl (h _ (fun _ _ h => h))
theorem wpList_not {a : Act} {w : World} {rest : List Oper} {o : Oper} (hw : Region.wanted o (yielded ops a.tmps) = false) (h : wpList P ops Q rest (a.put o.dst undef) w) : wpList P ops Q (o :: rest) a w := by
  unfold wpList
  rw [if_neg (by simp [hw])]
  exact h
end
end Go.Proofs.Ytjijemeabfiipaa
