/- Joined texts: Of no program: Canon's law inside the wide fence, where a round may be called. Spans (api.Span): their cells; what lies within. Of no program: what an iterator reads beside a loop's body that owns something of its own. The tree: contract of through, at a leaf. -/
import Derived.Test.YtjijemeabfiipaaJ1
import Derived.RegionIn
import Derived.Test.YtjijemeabfiipaaJ3
import Derived.RangeFuncNested
import Derived.RangeFuncBound
import Derived.RangeFuncCalls
import Derived.RangeFuncLeaves
import Derived.WalkKit
import Derived.OwnWalkIn
import Derived.TacticsInMore
import Derived.LoopNIn
import Derived.LoopIn
import Derived.Test.YtjijemeabfiipaaJ4
import Derived.Test.YtjijemeabfiipaaJ5
/- Of no program: Canon's law inside the wide fence, where a round may be called. -/
namespace Go.Proofs.Ytjijemeabfiipaa
open Go.ChangeShapes Go.WideShapes Go.ChangeAt Go.RowKit

section
variable {n : Nat} {P : Program} {ops : Array Oper} {Q : Exit → Act → World → Prop}

def wpCanI (n : Nat) (P : Program) (ops : Array Oper) (Q : Exit → Act → World → Prop) : List (Nat × Bool × Nat) → List Pend → Act → World → Prop
  | [], _, a, w => Q .normal a w
  | (i, e, k) :: rest, pend, a, w => ∃ o, ops[i]? = some o ∧
    match e with
    | false => if Region.wanted o (yielded ops a.tmps) then o.still P a w (fun b => wpCanI n P ops Q rest (⟨o, a, b, k⟩ :: pend) b w) else wpCanI n P ops Q rest (⟨o, a, a, k⟩ :: pend) (a.put o.dst undef) w
    | true => wpListIn Fence.wide n P ops (effQ Q fun b w' => allOk P ops i pend w' ∧ wpCanI n P ops Q rest (keepPend i pend) b w') [o] a w

theorem wpCanI_nil {pend : List Pend} {a : Act} {w : World} (h : Q .normal a w) : wpCanI n P ops Q [] pend a w := h

theorem wpCanI_eff {i k : Nat} {rest : List (Nat × Bool × Nat)} {pend : List Pend} {a : Act} {w : World} {o : Oper} (ho : ops[i]? = some o)
    (h : wpListIn Fence.wide n P ops (effQ Q fun b w' => allOk P ops i pend w' ∧ wpCanI n P ops Q rest (keepPend i pend) b w') [o] a w) : wpCanI n P ops Q ((i, true, k) :: rest) pend a w :=
  ⟨o, ho, h⟩

/-- one that is carried out and only reads -/
theorem wpCanI_read {i k : Nat} {rest : List (Nat × Bool × Nat)} {pend : List Pend} {a : Act} {w : World} {o : Oper} (ho : ops[i]? = some o) (hg : o.guard = none)
    (h : ∀ K : Act → Prop, (∀ b, wpCanI n P ops Q rest (⟨o, a, b, k⟩ :: pend) b w → K b) → o.still P a w K) : wpCanI n P ops Q ((i, false, k) :: rest) pend a w := by
  refine ⟨o, ho, ?_⟩
  dsimp only
  rw [if_pos (by simp [Region.wanted, hg])]
  exact h _ (fun _ h => h)
/-- one with a guard that says yes -/
theorem wpCanI_yes {i k : Nat} {rest : List (Nat × Bool × Nat)} {pend : List Pend} {a : Act} {w : World} {o : Oper} (ho : ops[i]? = some o) (hg : Region.wanted o (yielded ops a.tmps) = true)
    (h : ∀ K : Act → Prop, (∀ b, wpCanI n P ops Q rest (⟨o, a, b, k⟩ :: pend) b w → K b) → o.still P a w K) : wpCanI n P ops Q ((i, false, k) :: rest) pend a w := by
  refine ⟨o, ho, ?_⟩
  dsimp only
  rw [if_pos hg]
  exact h _ (fun _ h => h)
/-- one with a guard that says no -/
theorem wpCanI_no {i k : Nat} {rest : List (Nat × Bool × Nat)} {pend : List Pend} {a : Act} {w : World} {o : Oper} (ho : ops[i]? = some o) (hg : Region.wanted o (yielded ops a.tmps) = false)
    (h : wpCanI n P ops Q rest (⟨o, a, a, k⟩ :: pend) (a.put o.dst undef) w) : wpCanI n P ops Q ((i, false, k) :: rest) pend a w := by
  refine ⟨o, ho, ?_⟩
  dsimp only
  rw [if_neg (by simp [hg])]
  exact h

def wpAnyEI (n : Nat) (P : Program) (ops : Array Oper) (Q : Exit → Act → World → Prop) (S : Array Bool → World → Prop) : Nat → Array Bool → Act → World → Prop
  | 0, listed, a, w => Region.ready .any ops listed = [] ∧ Q .normal a w
  | fuel + 1, listed, a, w =>
    (Region.ready .any ops listed = [] → Q .normal a w) ∧
    ∀ i ∈ Region.ready .any ops listed, wpOpIn Fence.wide n P ops Q i (fun a' w' => S (listed.setIfInBounds i true) w' ∧ wpAnyEI n P ops Q S fuel (listed.setIfInBounds i true) a' w') a w

theorem wpAnyIn_of_EI {S : Array Bool → World → Prop} : ∀ (fuel : Nat) (listed : Array Bool) (a : Act) (w : World), wpAnyEI n P ops Q S fuel listed a w → wpAnyIn Fence.wide n P .any ops Q fuel listed a w
  | 0, _, _, _, h => h
  | fuel + 1, _, _, _, h => ⟨h.1, fun i hi => wpOpIn_mono (fun a' w' h' => wpAnyIn_of_EI fuel _ a' w' h'.2) (h.2 i hi)⟩

theorem wpAnyEI_mono {S S' : Array Bool → World → Prop} {G : Array Bool → Prop} (hG : ∀ l i, G l → G (l.setIfInBounds i true)) (hS : ∀ l w, G l → S l w → S' l w) :
    ∀ (fuel : Nat) (listed : Array Bool) (a : Act) (w : World), G listed → wpAnyEI n P ops Q S fuel listed a w → wpAnyEI n P ops Q S' fuel listed a w
  | 0, _, _, _, _, h => h
  | fuel + 1, listed, _, _, hl, h => ⟨h.1, fun i hi => wpOpIn_mono (fun a' w' h' => ⟨hS _ _ (hG listed i hl) h'.1, wpAnyEI_mono hG hS fuel _ a' w' (hG listed i hl) h'.2⟩) (h.2 i hi)⟩

theorem Oper.wpIn_of_still {o : Oper} {a : Act} {w : World} {K : Act → Prop} {K' : Act → World → Prop} {Q' : Exit → Act → World → Prop} (h : ∀ a, K a → K' a w) (hh : o.still P a w K) : o.wpIn Fence.wide n P a w K' Q' := by
  unfold Oper.still at hh
  unfold Oper.wpIn
  refine ⟨fun _ _ => trivial, ?_⟩
  rw [Fence.wide_round, Oper.semAt_none]
  generalize (execOp a.eval o).run P w = r at *
  cases r with
  | ok x w' =>
    cases x <;> simp only [Oper.stillUpon] at hh <;> simp only [Oper.uponIn]
    case enter f args =>
      obtain ⟨rfl, v, hc, hn⟩ := hh
      exact ⟨fun hd => (by cases hd), callsIn_wide.2 (hc.mono fun e w'' ⟨he, hw⟩ => by subst he; subst hw; exact h _ hn)⟩
    all_goals (obtain ⟨rfl, h2⟩ := hh; exact h _ h2)
  | halt x w' => simp only [Oper.stillUpon] at hh

theorem wpOpIn_of_stOp {i : Nat} {a : Act} {w : World} {K : Act → Prop} {K' : Act → World → Prop} {Q' : Exit → Act → World → Prop} (h : ∀ a, K a → K' a w) (hh : stOp P ops w i K a) : wpOpIn Fence.wide n P ops Q' i K' a w := by
  unfold stOp at hh
  unfold wpOpIn
  split
  · rename_i ho; simp only [ho] at hh; exact h _ hh
  · rename_i o ho
    simp only [ho] at hh
    split
    · rename_i hw; simp only [hw, if_true] at hh; exact Oper.wpIn_of_still h hh
    · rename_i hw; simp only [hw] at hh; exact ⟨fun _ _ => trivial, h _ hh⟩

theorem wpOpIn_putE {j : Nat} {oi oj : Oper} {v : Value} {a0 : Act} (hj : ops[j]? = some oj) (hap : oi.apart ops oj = true)
    (hsi : ∀ cs b, oi.op ≠ .select cs b) (hsj : ∀ cs b, oj.op ≠ .select cs b)
    (hQ : ∀ c a w, Q (.panic c) (a.put oi.dst v) w → Q (.panic c) a w) {K : Act → World → Prop} {a : Act} {w : World}
    (hy : AsAt ops oi a0 a) (h : wpOpIn Fence.wide n P ops Q j K (a.put oi.dst v) w) :
    wpOpIn Fence.wide n P ops Q j (fun a' w' => AsAt ops oi a0 a' ∧ K (a'.put oi.dst v) w') a w := by
  obtain ⟨h1, h2, h3⟩ := Oper.apart_spec hap
  have keep : ∀ (a : Act), AsAt ops oi a0 a → ∀ u, AsAt ops oi a0 (a.put oj.dst u) := fun a hy u => hy.put hsi oj.dst u h3
  have keepD : ∀ d, AsAt ops oi a0 { a with defers := d :: a.defers } := fun d => ⟨hy.1, hy.2.1, hy.2.2⟩
  unfold wpOpIn at *
  simp only [hj] at *
  rw [wanted_put oj a oi.dst v h1] at h
  split
  · rename_i hw
    simp only [hw, if_true] at h
    unfold Oper.wpIn at *
    refine ⟨fun _ _ => trivial, ?_⟩
    have h := h.2
    rw [Fence.wide_round, Oper.semAt_none, execOp_put oj hsj a oi.dst v h1] at h
    rw [Fence.wide_round, Oper.semAt_none]
    generalize (execOp a.eval oj).run P w = r at *
    cases r with
    | ok x w' =>
      cases x <;> simp only [Oper.uponIn] at h ⊢
      case value u => exact ⟨keep a hy u, by rw [← Act.put_comm a v u h2]; exact h⟩
      case skip => exact ⟨keep a hy _, by rw [← Act.put_comm a v undef h2]; exact h⟩
      case defer d =>
        refine ⟨keep _ (keepD d) _, ?_⟩
        rw [← Act.put_comm _ v undef h2, ← Act.put_defers]
        exact h
      case enter f args =>
        refine ⟨h.1, CallsIn.mono h.2 fun e w'' he => ?_⟩
        cases e with
        | returned u => exact ⟨keep a hy u, by rw [← Act.put_comm a v u h2]; exact he⟩
        | panicked c => exact hQ _ _ _ he
        | outgrown => exact he
      case row row args => exact ⟨h.1, RowsIn.mono h.2 fun u w'' he => ⟨keep a hy u, by rw [← Act.put_comm a v u h2]; exact he⟩⟩
      case round l f tmps assign body =>
        refine ⟨h.1, RoundIn.mono h.2 fun e w'' he => ?_⟩
        cases e with
        | returned u => exact ⟨keep a hy u, by rw [← Act.put_comm a v u h2]; exact he⟩
        | panicked c => exact hQ _ _ _ he
        | outgrown => exact he
    | halt x w' =>
      cases x <;> simp only [Oper.uponIn] at h ⊢
      case panic u => exact hQ _ _ _ h
  · rename_i hw
    simp only [hw] at h
    exact ⟨fun _ _ => trivial, keep a hy _, by rw [← Act.put_comm a v undef h2]; exact h.2⟩

theorem take_EI {i k : Nat} {oi : Oper} {v : Value} {a0 b0 : Act} {pend : List Pend} (hi : ops[i]? = some oi) (hsel : ∀ (j : Nat) (o : Oper) cs b, ops[j]? = some o → o.op ≠ .select cs b)
    (hb0 : Region.wanted oi (yielded ops a0.tmps) = true → b0 = a0.put oi.dst v) (hv : Region.wanted oi (yielded ops a0.tmps) = false → v = undef)
    (hk : k ≠ i) (hpk : ∀ x ∈ pend, x.k ≠ i) (hw : k < ops.size → ∃ n, waits ops n k i = true)
    (hQ : ∀ c a w, Q (.panic c) (a.put oi.dst v) w → Q (.panic c) a w) :
    ∀ (fuel : Nat) (listed : Array Bool) (a : Act) (w : World), listed.size = ops.size → ClosedL ops listed →
      (∀ j oj, ops[j]? = some oj → j ≠ i → listed.getD j true = false → (∀ e ∈ oj.after, Region.binds .any e = true → e.on ≠ i) → oi.apart ops oj = true) →
      i ∈ Region.ready .any ops listed → AsAt ops oi a0 a → (∃ v', YieldsAt P ops w oi v' a ∧ a0.put oi.dst v' = a0.put oi.dst v) → SP P ops pend listed w →
      wpAnyEI n P ops Q (SP P ops (⟨oi, a0, b0, k⟩ :: pend)) fuel (listed.setIfInBounds i true) (a.put oi.dst v) w → wpAnyEI n P ops Q (SP P ops pend) (fuel + 1) listed a w := by
  intro fuel
  have fin : ∀ {f : Nat} {listed : Array Bool} {a : Act} {w : World}, AsAt ops oi a0 a → (∃ v', YieldsAt P ops w oi v' a ∧ a0.put oi.dst v' = a0.put oi.dst v) → SP P ops pend listed w →
      wpAnyEI n P ops Q (SP P ops (⟨oi, a0, b0, k⟩ :: pend)) f (listed.setIfInBounds i true) (a.put oi.dst v) w →
      wpOpIn Fence.wide n P ops Q i (fun a' w' => SP P ops pend (listed.setIfInBounds i true) w' ∧ wpAnyEI n P ops Q (SP P ops pend) f (listed.setIfInBounds i true) a' w') a w := by
    intro f listed a w ha ⟨v', hy, he⟩ hS H
    refine wpOpIn_of_stOp (K := fun a' => a' = a.put oi.dst v) (fun a' ha' => ?_) (hy.stOp hi (put_same ha.2.2 he))
    subst ha'
    refine ⟨fun x hx hl => hS x hx ?_, wpAnyEI_mono (G := fun _ => True) (fun _ _ _ => trivial) (fun l w _ h x hx => h x (List.mem_cons_of_mem _ hx)) f _ _ _ trivial H⟩
    rw [getD_set_ne false (Ne.symm (hpk x hx))] at hl
    exact hl
  induction fuel with
  | zero =>
    intro listed a w hsz hc _ hr ha hy hS H
    refine ⟨fun h => (by rw [h] at hr; cases hr), fun j hj => ?_⟩
    by_cases hji : j = i
    · subst hji; exact fin ha hy hS H
    · have := ready_mono hj hji
      rw [H.1] at this
      cases this
  | succ fuel ih =>
    intro listed a w hsz hc hfree hr ha hy hS H
    refine ⟨fun h => (by rw [h] at hr; cases hr), fun j hj => ?_⟩
    by_cases hji : j = i
    · subst hji; exact fin ha hy hS H
    · have h1 := H.2 j (ready_mono hj hji)
      obtain ⟨hjun, oj, hoj, hall⟩ := mem_ready.1 hj
      have hiun := getD_both (mem_ready.1 hr).1
      have hnot : ∀ e ∈ oj.after, Region.binds .any e = true → e.on ≠ i := fun e he hb heq => by
        have h1 := hall e he hb
        rw [heq, hiun] at h1
        cases h1
      have h2 := wpOpIn_putE hoj (hfree j oj hoj hji hjun hnot) (fun cs b => hsel i oi cs b hi) (fun cs b => hsel j oj cs b hoj) hQ ha h1
      have hfree' : ∀ k ok, ops[k]? = some ok → k ≠ i → (listed.setIfInBounds j true).getD k true = false →
          (∀ e ∈ ok.after, Region.binds .any e = true → e.on ≠ i) → oi.apart ops ok = true := fun k ok hk hki hun hno => by
        refine hfree k ok hk hki ?_ hno
        by_cases hjk : j = k
        · subst hjk; exact hjun
        · rw [getD_set_ne true hjk] at hun; exact hun
      refine wpOpIn_mono (fun a' w' h3 => ?_) h2
      obtain ⟨ha', hS', h4⟩ := h3
      have hc' := hc.set hj
      have hkun : ∀ l : Array Bool, ClosedL ops l → l.size = ops.size → l.getD i false = false → l.getD k false = false := by
        intro l hcl hls hil
        by_cases hks : k < ops.size
        · obtain ⟨n, hn⟩ := hw hks
          cases hkl : l.getD k false with
          | false => rfl
          | true => rw [waits_listed hcl n k i hn hkl] at hil; cases hil
        · simp [Array.getElem?_eq_none (show l.size ≤ k by omega)]
      have hij : (listed.setIfInBounds j true).getD i false = false := by rw [getD_set_ne false hji]; exact hiun
      have hkj : (listed.setIfInBounds j true).getD k false = false := hkun _ hc' (by simpa using hsz) hij
      have hSP : SP P ops pend (listed.setIfInBounds j true) w' := fun x hx hl => by
        refine hS' x (List.mem_cons_of_mem _ hx) ?_
        rw [Array.setIfInBounds_comm _ _ (Ne.symm hji), getD_set_ne false (Ne.symm (hpk x hx))]
        exact hl
      refine ⟨hSP, ih (listed.setIfInBounds j true) a' w' (by simpa using hsz) hc' hfree' (ready_mono hr (Ne.symm hji)) ha' ?_ hSP ?_⟩
      · have hok := hS' ⟨oi, a0, b0, k⟩ (by simp) (by rw [Array.setIfInBounds_comm _ _ (Ne.symm hji), getD_set_ne false (Ne.symm hk)]; exact hkj)
        unfold Pend.ok at hok
        by_cases hwt : Region.wanted oi (yielded ops a0.tmps) = true
        · simp only [hwt, if_true] at hok
          obtain ⟨v', hv', he⟩ := yieldsAt_of_stOp hi (stOp_of (ops := ops) (K := fun b => b = b0) hi (by rw [if_pos hwt]; exact hok))
          exact ⟨v', YieldsAt.asAt hv' ha', he.trans (hb0 hwt)⟩
        · have hwf : Region.wanted oi (yielded ops a0.tmps) = false := by simpa using hwt
          exact ⟨v, .inr ⟨ha'.2.1.trans hwf, hv hwf⟩, rfl⟩
      · rw [Array.setIfInBounds_comm _ _ hji]
        exact h4
theorem wpCanI_any (hs : Region.noSelect ops = true) {Qn : Exit → Act → World → Prop} (hnorm : ∀ a w, Q .normal a w → Qn .normal a w) (hout : ∀ a w, Q .outgrown a w → Qn .outgrown a w)
    (hQ : ∀ c (a : Act) (d : Option Tmp) (v : Value) (w : World), Qn (.panic c) (a.put d v) w → Qn (.panic c) a w) (effs : List Nat) :
    ∀ (sched : List (Nat × Bool × Nat)) (pend : List Pend) (listed : Array Bool) (a : Act) (w : World), canonOk ops effs sched listed = true → listed.size = ops.size → ClosedL ops listed →
      (∀ x ∈ pend, ops.size ≤ x.k ∨ effs.contains x.k = true) → SP P ops pend listed w → wpCanI n P ops Q sched pend a w → wpAnyEI n P ops Qn (SP P ops pend) sched.length listed a w
  | [], pend, listed, a, w, hB, _, _, _, _, h => ⟨by simpa [canonOk] using hB, hnorm _ _ h⟩
  | (i, false, k) :: rest, pend, listed, a, w, hB, hsz, hc, hp, hS, h => by
    simp only [canonOk, Bool.and_eq_true, Bool.or_eq_true, decide_eq_true_eq, Bool.not_eq_true'] at hB
    obtain ⟨⟨⟨⟨hr, hf⟩, hne⟩, hk⟩, hB'⟩ := hB
    obtain ⟨o, ho, h⟩ := h
    dsimp only at h
    have hr' : i ∈ Region.ready .any ops listed := by simpa using hr
    have hilt : i < ops.size := (Array.getElem?_eq_some_iff.1 ho).1
    have hki : k ≠ i := fun e => by subst e; rcases hk with hk | hk; · omega
                                    · rw [hne] at hk; cases hk.1
    have hpk : ∀ x ∈ pend, x.k ≠ i := fun x hx e => by
      rcases hp x hx with h1 | h1
      · omega
      · rw [e, hne] at h1; cases h1
    have hw : k < ops.size → ∃ n, waits ops n k i = true := fun hlt => by
      rcases hk with hk | hk
      · omega
      · exact ⟨_, hk.2⟩
    have hc' := hc.set hr'
    have step : ∀ (b0 : Act) (v : Value), (Region.wanted o (yielded ops a.tmps) = true → b0 = a.put o.dst v) → (Region.wanted o (yielded ops a.tmps) = false → v = undef) → YieldsAt P ops w o v a →
        (⟨o, a, b0, k⟩ : Pend).ok P ops w → wpCanI n P ops Q rest (⟨o, a, b0, k⟩ :: pend) (a.put o.dst v) w → wpAnyEI n P ops Qn (SP P ops pend) ((i, false, k) :: rest).length listed a w := by
      intro b0 v hb0 hv hy hok hrest
      refine take_EI ho (Region.noSelect_spec hs) hb0 hv hki hpk hw (fun c a w => hQ c a _ _ w) rest.length listed a w hsz hc (Region.free_spec ho hf) hr' ⟨rfl, rfl, rfl⟩ ⟨v, hy, rfl⟩ hS ?_
      refine wpCanI_any hs hnorm hout hQ effs rest _ _ _ _ hB' (by simpa using hsz) hc' (fun x hx => ?_) (fun x hx hl => ?_) hrest
      · rcases List.mem_cons.1 hx with rfl | hx
        · rcases hk with hk | hk
          · exact .inl hk
          · exact .inr hk.1
        · exact hp x hx
      · rcases List.mem_cons.1 hx with rfl | hx
        · exact hok
        · refine hS x hx ?_
          rw [getD_set_ne false (Ne.symm (hpk x hx))] at hl
          exact hl
    by_cases hwt : Region.wanted o (yielded ops a.tmps) = true
    · rw [if_pos hwt] at h
      obtain ⟨v, hy, hK⟩ := yieldsAt_of_stOp (ops := ops) ho (stOp_of (ops := ops) ho (by rw [if_pos hwt]; exact h))
      refine step (a.put o.dst v) v (fun _ => rfl) (fun e => by rw [hwt] at e; cases e) hy ?_ hK
      have := hy.stOp ho (K := fun b => b = a.put o.dst v) rfl
      unfold stOp at this
      simp only [ho] at this
      unfold Pend.ok
      rw [if_pos hwt] at this ⊢
      exact this
    · have hwf : Region.wanted o (yielded ops a.tmps) = false := by simpa using hwt
      rw [if_neg hwt] at h
      exact step a undef (fun e => absurd e hwt) (fun _ => rfl) (.inr ⟨hwf, rfl⟩) (by unfold Pend.ok; rw [if_neg hwt]; trivial) h
  | (i, true, k) :: rest, pend, listed, a, w, hB, hsz, hc, hp, hS, h => by
    simp only [canonOk, Bool.and_eq_true, decide_eq_true_eq] at hB
    obtain ⟨⟨hr, he⟩, hB'⟩ := hB
    obtain ⟨o, ho, h⟩ := h
    dsimp only at h
    refine ⟨fun h0 => (by rw [h0] at hr; cases hr), fun j hj => ?_⟩
    have hji : j = i := by rw [hr] at hj; simpa using hj
    subst hji
    have hc' := hc.set hj
    have hsz' : (listed.setIfInBounds j true).size = ops.size := by simpa using hsz
    have hjlt : j < listed.size := by rw [hsz]; exact (Array.getElem?_eq_some_iff.1 ho).1
    have fin : ∀ b w', (allOk P ops j pend w' ∧ wpCanI n P ops Q rest (keepPend j pend) b w') →
        SP P ops pend (listed.setIfInBounds j true) w' ∧ wpAnyEI n P ops Qn (SP P ops pend) rest.length (listed.setIfInBounds j true) b w' := by
      intro b w' ⟨h1, h2⟩
      have hlist : (listed.setIfInBounds j true).getD j false = true := by simp [hjlt]
      have hSP : SP P ops pend (listed.setIfInBounds j true) w' := fun x hx hl => by
        by_cases hxj : x.k = j
        · rw [hxj, hlist] at hl; cases hl
        · exact allOk_mem h1 hx hxj
      refine ⟨hSP, ?_⟩
      have hk2 : SP P ops (keepPend j pend) (listed.setIfInBounds j true) w' := fun x hx hl => hSP x (keepPend_mem hx).1 hl
      have ih := wpCanI_any hs hnorm hout hQ effs rest _ _ _ _ hB' hsz' hc' (fun x hx => hp x (keepPend_mem hx).1) hk2 h2
      refine wpAnyEI_mono (G := fun l => l.getD j false = true) (fun l i hl => getD_set_true hl) (fun l w hl hh x hx hxl => ?_) _ _ _ _ hlist ih
      by_cases hxj : x.k = j
      · rw [hxj, hl] at hxl; cases hxl
      · exact hh x (mem_keepPend hx hxj) hxl
    unfold wpOpIn
    simp only [ho]
    unfold wpListIn at h
    split
    · rename_i hwt
      rw [if_pos hwt] at h
      unfold Oper.wpIn at *
      refine ⟨fun _ _ => trivial, ?_⟩
      have h := h.2
      generalize (o.semAt Fence.wide.round a.eval).run P w = r at *
      cases r with
      | ok x w' =>
        cases x <;> simp only [Oper.uponIn] at h ⊢
        case value u => exact fin _ _ h
        case skip => exact fin _ _ h
        case defer d => exact fin _ _ h
        case enter f args =>
          refine ⟨h.1, CallsIn.mono h.2 fun e w'' he => ?_⟩
          cases e with
          | returned u => exact fin _ _ he
          | panicked c => exact (he : False).elim
          | outgrown => obtain ⟨b, w3, h3⟩ := he; exact ⟨b, w3, hout _ _ h3⟩
        case row row args => exact ⟨h.1, RowsIn.mono h.2 fun u w'' he => fin _ _ he⟩
        case round l f tmps assign body =>
          refine ⟨h.1, RoundIn.mono h.2 fun e w'' he => ?_⟩
          cases e with
          | returned u => exact fin _ _ he
          | panicked c => exact (he : False).elim
          | outgrown => obtain ⟨b, w3, h3⟩ := he; exact ⟨b, w3, hout _ _ h3⟩
      | halt x w' =>
        cases x <;> simp only [Oper.uponIn] at h ⊢
        case panic u => exact (h : False).elim
    · rename_i hwt
      rw [if_neg hwt] at h
      exact ⟨fun _ _ => trivial, fin _ _ h.2⟩

/-- A REGION THAT DRAWS ITS ORDER, WALKED IN ONE ORDER. -/
theorem wpIn_region_canon {id : Nat} {a : Act} {w : World} {l : List Oper} (sched : List (Nat × Bool × Nat)) (hm : P.follows .mixedOrders = true)
    (hB : (Region.noSelect l.toArray && (decide (sched.length = l.length) && canonOk l.toArray ((sched.filter (·.2.1)).map (·.1)) sched (Array.replicate l.toArray.size false))) = true)
    (h : wpCanI n P l.toArray Q sched [] a w.drew) : (Code.region id l.toArray true).wpIn Fence.wide n P Q a w := by
  simp only [Bool.and_eq_true, decide_eq_true_eq] at hB
  obtain ⟨hs, hlen, hB⟩ := hB
  have key : wpAnyEI n P l.toArray (NoPanic Q) (SP P l.toArray []) sched.length (Array.replicate l.toArray.size false) a w.drew := by
    refine wpCanI_any (Q := Q) (Qn := NoPanic Q) hs (fun _ _ h => h) (fun _ _ h => h) (fun c a d v w h => (h : False).elim) _ sched [] _ a _ hB (by simp) (fun j o hj hl => ?_) (fun x hx => by cases hx) (fun x hx => by cases hx) h
    rw [getD_replicate_false] at hl
    cases hl
  have hz : sched.length = l.toArray.size := by simpa using hlen
  rw [hz] at key
  exact Code.wpIn_mono NoPanic.imp (wpIn_region_any hm (wpAnyIn_of_EI _ _ _ _ key))

/-! ### one operation that turns the world -/
theorem wpListIn_do {a : Act} {w : World} {rest : List Oper} {o : Oper} (hw : Region.wanted o (yielded ops a.tmps) = true) (h : ∀ K : Act → World → Prop, (∀ b w', wpListIn Fence.wide n P ops Q rest b w' → K b w') → o.wpIn Fence.wide n P a w K Q) : wpListIn Fence.wide n P ops Q (o :: rest) a w := by
  unfold wpListIn
  rw [if_pos hw]
  exact h _ (fun _ _ h => h)
theorem wpListIn_not {a : Act} {w : World} {rest : List Oper} {o : Oper} (hw : Region.wanted o (yielded ops a.tmps) = false) (h : wpListIn Fence.wide n P ops Q rest (a.put o.dst undef) w) : wpListIn Fence.wide n P ops Q (o :: rest) a w := by
  unfold wpListIn
  rw [if_neg (by simp [hw])]
  exact ⟨fun _ _ => trivial, h⟩
end
end Go.Proofs.Ytjijemeabfiipaa

/- Spans (api.Span): their cells; what lies within. -/
namespace Go.Proofs.Ytjijemeabfiipaa
open Go.ChangeShapes Go.WideShapes Go.ChangeAt Go.RowKit
set_option maxRecDepth 100000
set_option linter.unusedSimpArgs false

structure Spn where
  no : Bool
  hasLo : Bool
  openLo : Bool
  lo : Val
  hasHi : Bool
  openHi : Bool
  hi : Val
def Spn.cells (s : Spn) : Array Value := #[.bool s.no, .bool s.hasLo, .bool s.openLo, .bool s.lo.t, .int .i64 s.lo.n, .string s.lo.s, .bool s.hasHi, .bool s.openHi, .bool s.hi.t, .int .i64 s.hi.n, .string s.hi.s]
abbrev Spn.v (s : Spn) : Value := .agg #[.bool s.no, .bool s.hasLo, .bool s.openLo, .bool s.lo.t, .int .i64 s.lo.n, .string s.lo.s, .bool s.hasHi, .bool s.openHi, .bool s.hi.t, .int .i64 s.hi.n, .string s.hi.s]
abbrev tS : TypeId := 26
def spanLo (s : Spn) (v : Val) : Bool := s.hasLo && (decide (valCmp v s.lo < 0) || decide (valCmp v s.lo = 0) && s.openLo)
def spanHi (s : Spn) (v : Val) : Bool := !s.hasHi || decide (valCmp v s.hi < 0) || decide (valCmp v s.hi = 0) && !s.openHi
def spanIn (s : Spn) (v : Val) : Bool := !s.no && !spanLo s v && spanHi s v
theorem Spn.at {w : World} {b : Nat} {s : Spn} {t : TypeId} {fr : Nat × Nat} (h : w.heap[b]? = some (.cells s.cells t fr)) :
    w.cell? ⟨b, 0, none⟩ = some (.bool s.no) ∧ w.cell? ⟨b, 1, none⟩ = some (.bool s.hasLo) ∧ w.cell? ⟨b, 2, none⟩ = some (.bool s.openLo) ∧ w.cell? ⟨b, 3, none⟩ = some (.bool s.lo.t) ∧ w.cell? ⟨b, 4, none⟩ = some (.int .i64 s.lo.n) ∧ w.cell? ⟨b, 5, none⟩ = some (.string s.lo.s) ∧
    w.cell? ⟨b, 6, none⟩ = some (.bool s.hasHi) ∧ w.cell? ⟨b, 7, none⟩ = some (.bool s.openHi) ∧ w.cell? ⟨b, 8, none⟩ = some (.bool s.hi.t) ∧ w.cell? ⟨b, 9, none⟩ = some (.int .i64 s.hi.n) ∧ w.cell? ⟨b, 10, none⟩ = some (.string s.hi.s) := by
  refine ⟨?_, ?_, ?_, ?_, ?_, ?_, ?_, ?_, ?_, ?_, ?_⟩ <;> simp [World.cell?, h, Spn.cells]
theorem spanLo_eq (s : Spn) (x : Val) : spanLo s x = (s.hasLo && (decide (valCmp x s.lo < 0) || decide (valCmp x s.lo = 0) && s.openLo)) := rfl
theorem spanHi_eq (s : Spn) (x : Val) : spanHi s x = (!s.hasHi || decide (valCmp x s.hi < 0) || decide (valCmp x s.hi = 0) && !s.openHi) := rfl
theorem cmp_three (a b : Val) : valCmp a b = -1 ∨ valCmp a b = 0 ∨ valCmp a b = 1 := by
  unfold valCmp cmpS cmpI
  repeat' split
  all_goals simp


set_option maxHeartbeats 8000000 in
theorem within_ok (s : Spn) (x : Val) (w : World) : Calls Try.prog 47 #[s.v, x.v] w fun e w' => e = .returned (.bool (spanIn s x)) ∧ Kept (fun _ => False) w w' := by
  have hk0 : Kept (fun _ => False) w ((w.alloc (.cells s.cells tS)).alloc (.cells #[.bool x.t, .int .i64 x.n, .string x.s] 24)) := ((Kept.refl _ _).alloc _).alloc _
  have hb1 : ((w.alloc (.cells s.cells tS)).alloc (.cells #[.bool x.t, .int .i64 x.n, .string x.s] 24)).heap[w.heap.size]? = some (.cells s.cells tS (0, 0)) := (((Kept.refl (fun _ => False) (w.alloc (.cells s.cells tS))).alloc _).block _ (by simp) (fun h => h)).trans (heap_alloc_self w _)
  have hb2 : ((w.alloc (.cells s.cells tS)).alloc (.cells #[.bool x.t, .int .i64 x.n, .string x.s] 24)).heap[w.heap.size + 1]? = some (.cells #[.bool x.t, .int .i64 x.n, .string x.s] 24 (0, 0)) := by
    have := heap_alloc_self (w.alloc (.cells s.cells tS)) (.cells #[.bool x.t, .int .i64 x.n, .string x.s] 24)
    rw [World.size_alloc] at this
    exact this
  have HK0 := Lib.hid hk0
  have HB1 := Lib.hid hb1
  have HB2 := Lib.hid hb2
  clear hk0 hb1 hb2
  dsimp only [Spn.v, Val.v]
  go_enter Try.func47, Try.ntmps47
  go_upto_region 1 with (fail)
  obtain ⟨W, hW⟩ : ∃ W, W = (w.alloc (.cells s.cells tS)).alloc (.cells #[.bool x.t, .int .i64 x.n, .string x.s] 24) := ⟨_, rfl⟩
  dsimp only [Spn.cells] at hW
  rw [← hW]
  dsimp only [Spn.cells] at HK0 HB1 HB2
  rw [← hW] at HK0 HB1 HB2
  generalize w.heap.size + 1 = bx at HB2 ⊢
  generalize w.heap.size = bs at HB1 ⊢
  clear hW
  obtain ⟨s0, s1, s2, s3, s4, s5, s6, s7, s8, s9, s10⟩ := Spn.at (s := s) HB1.out
  obtain ⟨x0, x1, x2, xf⟩ := cells3 HB2.out
  cases hn : s.no
  · rw [hn] at s0
    have HN := Lib.hid hn
    clear hn
    go_upto_region 4 with ((go_at_call 41; refine (compare_ok x s.lo _).mono ?_; rintro e1 w1 ⟨rfl, hk1⟩; have HK1 := Lib.hid (HK0.out.trans hk1 (fun _ h => h.elim)); have HB11 := Lib.hid ((hk1.block bs (lt_of_heap HB1.out) (fun h => h)).trans HB1.out); have HB21 := Lib.hid ((hk1.block bx (lt_of_heap HB2.out) (fun h => h)).trans HB2.out); clear hk1 s0 s1 s2 s3 s4 s5 s6 s7 s8 s9 s10 x0 x1 x2 xf))
    obtain ⟨s0, s1, s2, s3, s4, s5, s6, s7, s8, s9, s10⟩ := Spn.at (s := s) HB11.out
    obtain ⟨x0, x1, x2, xf⟩ := cells3 HB21.out
    have hc3 := cmp_three x s.lo
    have HLO := Lib.hid (spanLo_eq s x)
    generalize valCmp x s.lo = c at HLO hc3 ⊢
    cases hl : s.hasLo
    · rw [hl] at s1
      have HLF : spanLo s x = false := by rw [HLO.out]; simp [*]
      have HLF := Lib.hid HLF
      go_upto_region 7 with ((go_at_call 41; refine (compare_ok x s.hi _).mono ?_; rintro e2 w2 ⟨rfl, hk2⟩; have HK2 := Lib.hid (HK1.out.trans hk2 (fun _ h => h.elim)); have HB12 := Lib.hid ((hk2.block bs (lt_of_heap HB11.out) (fun h => h)).trans HB11.out); clear hk2 s0 s1 s2 s3 s4 s5 s6 s7 s8 s9 s10 x0 x1 x2 xf))
      obtain ⟨s0, s1, s2, s3, s4, s5, s6, s7, s8, s9, s10⟩ := Spn.at (s := s) HB12.out
      have hd3 := cmp_three x s.hi
      have HHI := Lib.hid (spanHi_eq s x)
      generalize valCmp x s.hi = d at HHI hd3 ⊢
      cases hh : s.hasHi
      · rw [hh] at s6
        go_wp2_with (fail)
        go_ret
        exact ⟨by unfold spanIn; rw [HN.out, HLF.out, HHI.out]; simp [*], HK2.out⟩
      · rw [hh] at s6
        rcases hd3 with rfl | rfl | rfl
        · skip
          go_wp2_with (fail)
          go_ret
          exact ⟨by unfold spanIn; rw [HN.out, HLF.out, HHI.out]; simp [*], HK2.out⟩
        · cases ho : s.openHi
          · rw [ho] at s7
            go_wp2_with (fail)
            go_ret
            exact ⟨by unfold spanIn; rw [HN.out, HLF.out, HHI.out]; simp [*], HK2.out⟩
          · rw [ho] at s7
            go_wp2_with (fail)
            go_ret
            exact ⟨by unfold spanIn; rw [HN.out, HLF.out, HHI.out]; simp [*], HK2.out⟩
        · skip
          go_wp2_with (fail)
          go_ret
          exact ⟨by unfold spanIn; rw [HN.out, HLF.out, HHI.out]; simp [*], HK2.out⟩
    · rw [hl] at s1
      rcases hc3 with rfl | rfl | rfl
      · skip
        have HLF : spanLo s x = true := by rw [HLO.out]; simp [*]
        have HLF := Lib.hid HLF
        go_wp2_with (fail)
        go_ret
        exact ⟨by unfold spanIn; rw [HN.out, HLF.out]; simp, HK1.out⟩
      · cases ho : s.openLo
        · rw [ho] at s2
          have HLF : spanLo s x = false := by rw [HLO.out]; simp [*]
          have HLF := Lib.hid HLF
          go_upto_region 7 with ((go_at_call 41; refine (compare_ok x s.hi _).mono ?_; rintro e2 w2 ⟨rfl, hk2⟩; have HK2 := Lib.hid (HK1.out.trans hk2 (fun _ h => h.elim)); have HB12 := Lib.hid ((hk2.block bs (lt_of_heap HB11.out) (fun h => h)).trans HB11.out); clear hk2 s0 s1 s2 s3 s4 s5 s6 s7 s8 s9 s10 x0 x1 x2 xf))
          obtain ⟨s0, s1, s2, s3, s4, s5, s6, s7, s8, s9, s10⟩ := Spn.at (s := s) HB12.out
          have hd3 := cmp_three x s.hi
          have HHI := Lib.hid (spanHi_eq s x)
          generalize valCmp x s.hi = d at HHI hd3 ⊢
          cases hh : s.hasHi
          · rw [hh] at s6
            go_wp2_with (fail)
            go_ret
            exact ⟨by unfold spanIn; rw [HN.out, HLF.out, HHI.out]; simp [*], HK2.out⟩
          · rw [hh] at s6
            rcases hd3 with rfl | rfl | rfl
            · skip
              go_wp2_with (fail)
              go_ret
              exact ⟨by unfold spanIn; rw [HN.out, HLF.out, HHI.out]; simp [*], HK2.out⟩
            · cases ho : s.openHi
              · rw [ho] at s7
                go_wp2_with (fail)
                go_ret
                exact ⟨by unfold spanIn; rw [HN.out, HLF.out, HHI.out]; simp [*], HK2.out⟩
              · rw [ho] at s7
                go_wp2_with (fail)
                go_ret
                exact ⟨by unfold spanIn; rw [HN.out, HLF.out, HHI.out]; simp [*], HK2.out⟩
            · skip
              go_wp2_with (fail)
              go_ret
              exact ⟨by unfold spanIn; rw [HN.out, HLF.out, HHI.out]; simp [*], HK2.out⟩
        · rw [ho] at s2
          have HLF : spanLo s x = true := by rw [HLO.out]; simp [*]
          have HLF := Lib.hid HLF
          go_wp2_with (fail)
          go_ret
          exact ⟨by unfold spanIn; rw [HN.out, HLF.out]; simp, HK1.out⟩
      · skip
        have HLF : spanLo s x = false := by rw [HLO.out]; simp [*]
        have HLF := Lib.hid HLF
        go_upto_region 7 with ((go_at_call 41; refine (compare_ok x s.hi _).mono ?_; rintro e2 w2 ⟨rfl, hk2⟩; have HK2 := Lib.hid (HK1.out.trans hk2 (fun _ h => h.elim)); have HB12 := Lib.hid ((hk2.block bs (lt_of_heap HB11.out) (fun h => h)).trans HB11.out); clear hk2 s0 s1 s2 s3 s4 s5 s6 s7 s8 s9 s10 x0 x1 x2 xf))
        obtain ⟨s0, s1, s2, s3, s4, s5, s6, s7, s8, s9, s10⟩ := Spn.at (s := s) HB12.out
        have hd3 := cmp_three x s.hi
        have HHI := Lib.hid (spanHi_eq s x)
        generalize valCmp x s.hi = d at HHI hd3 ⊢
        cases hh : s.hasHi
        · rw [hh] at s6
          go_wp2_with (fail)
          go_ret
          exact ⟨by unfold spanIn; rw [HN.out, HLF.out, HHI.out]; simp [*], HK2.out⟩
        · rw [hh] at s6
          rcases hd3 with rfl | rfl | rfl
          · skip
            go_wp2_with (fail)
            go_ret
            exact ⟨by unfold spanIn; rw [HN.out, HLF.out, HHI.out]; simp [*], HK2.out⟩
          · cases ho : s.openHi
            · rw [ho] at s7
              go_wp2_with (fail)
              go_ret
              exact ⟨by unfold spanIn; rw [HN.out, HLF.out, HHI.out]; simp [*], HK2.out⟩
            · rw [ho] at s7
              go_wp2_with (fail)
              go_ret
              exact ⟨by unfold spanIn; rw [HN.out, HLF.out, HHI.out]; simp [*], HK2.out⟩
          · skip
            go_wp2_with (fail)
            go_ret
            exact ⟨by unfold spanIn; rw [HN.out, HLF.out, HHI.out]; simp [*], HK2.out⟩
  · rw [hn] at s0
    have HIN := Lib.hid (show spanIn s x = false by unfold spanIn; rw [hn]; rfl)
    go_wp2_with (fail)
    go_ret
    exact ⟨by rw [HIN.out]; rfl, HK0.out⟩
end Go.Proofs.Ytjijemeabfiipaa

/- Of no program: what an iterator reads beside a loop's body that owns something of its own. -/
namespace Go.Proofs.Ytjijemeabfiipaa
open Go.ChangeShapes Go.WideShapes Go.ChangeAt Go.RowKit
set_option linter.unusedSimpArgs false

/-- blocks that a loop's body owns: what is laid or turned elsewhere makes them no more -/
structure Owner (n₀ : Nat) (Ow : World → Nat → Prop) : Prop where
  stay : ∀ W W', n₀ ≤ W.heap.size → Kept (fun _ => False) W W' → ∀ k, Ow W' k → Ow W k
  put : ∀ W l (o : Obj), n₀ ≤ l → ∀ k, Ow (W.putObj l o) k → Ow W k
/-- a round's word -/
structure KpO (Ow : World → Nat → Prop) (W W' : World) : Prop where
  size : W.heap.size ≤ W'.heap.size
  same : ∀ k cs t fr, W.heap[k]? = some (.cells cs t fr) → ¬ Ow W k → W'.heap[k]? = some (.cells cs t fr)
  back : ∀ k, Ow W' k → Ow W k ∨ W.heap.size ≤ k
  fit : (∀ k, Ow W k → k < W.heap.size) → ∀ k, Ow W' k → k < W'.heap.size
/-- D may be read by the iterator -/
structure ItOk (n₀ : Nat) (Ow : World → Nat → Prop) (D : PH) (W : World) : Prop where
  le : PH.le D (heapOf W)
  mine : ∀ k o, D k = some o → (∃ cs t fr, o = .cells cs t fr) ∧ ¬ Ow W k
  fit : ∀ k, Ow W k → k < W.heap.size
  ge : n₀ ≤ W.heap.size

section
variable {n₀ : Nat} {Ow : World → Nat → Prop} {D : PH} {W W' X : World}
theorem heapOf_lt {k : Nat} {o : Obj} (h : heapOf W k = some o) : k < W.heap.size := lt_of_heap h
theorem KpO.trans (a : KpO Ow W W') (b : KpO Ow W' X) : KpO Ow W X where
  size := Nat.le_trans a.size b.size
  same := fun k cs t fr h hn => b.same k cs t fr (a.same k cs t fr h hn) (fun ho => by
    rcases a.back k ho with h1 | h1
    · exact hn h1
    · have := lt_of_heap h; omega)
  back := fun k ho => by
    rcases b.back k ho with h1 | h1
    · exact a.back k h1
    · exact .inr (Nat.le_trans a.size h1)
  fit := fun h => b.fit (a.fit h)
theorem KpO.put (hO : Owner n₀ Ow) {l : Nat} {o o' : Obj} (hl : n₀ ≤ l) (h : W.heap[l]? = some o) (hc : o.isCells = false) : KpO Ow W (W.putObj l o') where
  size := by simp
  same := fun k cs t fr hk _ => by
    rw [World.putObj_heap_other (fun e => by subst e; rw [h] at hk; cases hk; cases hc)]
    exact hk
  back := fun k ho => .inl (hO.put W l o' hl k ho)
  fit := fun hf k ho => by have := hf k (hO.put W l o' hl k ho); simpa using this
theorem ItOk.kp (h : ItOk n₀ Ow D W) (k : KpO Ow W W') : ItOk n₀ Ow D W' where
  le := fun b o hb => by
    obtain ⟨⟨cs, t, fr, rfl⟩, hn⟩ := h.mine b o hb
    exact k.same b cs t fr (h.le b _ hb) hn
  mine := fun b o hb => ⟨(h.mine b o hb).1, fun ho => by
    rcases k.back b ho with h1 | h1
    · exact (h.mine b o hb).2 h1
    · have := heapOf_lt (h.le b o hb); omega⟩
  fit := k.fit h.fit
  ge := Nat.le_trans h.ge k.size
theorem ItOk.kept (hO : Owner n₀ Ow) (h : ItOk n₀ Ow D W) (k : Kept (fun _ => False) W W') : ItOk n₀ Ow D W' where
  le := fun b o hb => (k.block b (heapOf_lt (h.le b o hb)) (fun h => h)).trans (h.le b o hb)
  mine := fun b o hb => ⟨(h.mine b o hb).1, fun ho => (h.mine b o hb).2 (hO.stay W W' h.ge k b ho)⟩
  fit := fun b ho => Nat.lt_of_lt_of_le (h.fit b (hO.stay W W' h.ge k b ho)) k.size
  ge := Nat.le_trans h.ge k.size
def PH.with (D : PH) (b : Nat) (o : Obj) : PH := fun x => if x = b then some o else D x
theorem PH.with_self (D : PH) (b : Nat) (o : Obj) : D.with b o b = some o := by simp [PH.with]
/-- a block that was laid since -/
theorem ItOk.new (hO : Owner n₀ Ow) (h : ItOk n₀ Ow D W) (k : Kept (fun _ => False) W W') {b : Nat} {cs : Array Value} {t : TypeId} {fr : Nat × Nat} (hb : W'.heap[b]? = some (.cells cs t fr)) (hge : W.heap.size ≤ b) : ItOk n₀ Ow (D.with b (.cells cs t fr)) W' where
  le := fun x o hx => by
    unfold PH.with at hx
    split at hx
    · rename_i e; subst e; cases hx; exact hb
    · exact (h.kept hO k).le x o hx
  mine := fun x o hx => by
    unfold PH.with at hx
    split at hx
    · rename_i e
      subst e
      cases hx
      exact ⟨⟨_, _, _, rfl⟩, fun ho => by have := h.fit x (hO.stay W W' h.ge k x ho); omega⟩
    · exact (h.kept hO k).mine x o hx
  fit := (h.kept hO k).fit
  ge := (h.kept hO k).ge
theorem ItOk.with_le (h : ItOk n₀ Ow D W) {b : Nat} (o : Obj) (hb : W.heap.size ≤ b) : PH.le D (D.with b o) := fun x p hx => by
  unfold PH.with
  rw [if_neg (fun e => by subst e; have := heapOf_lt (h.le x p hx); omega)]
  exact hx
theorem ItOk.less {D' : PH} (h : ItOk n₀ Ow D' W) (le : PH.le D D') : ItOk n₀ Ow D W where
  le := le.trans h.le
  mine := fun b o hb => h.mine b o (le b o hb)
  fit := h.fit
  ge := h.ge
theorem Kept.grown (k : Kept (fun _ => False) W W') : W.grownBy W' none := ⟨k.os, k.tape, k.output, k.size, fun b hb _ => k.block b hb (fun h => h)⟩
end
end Go.Proofs.Ytjijemeabfiipaa

/- The tree: contract of through, at a leaf. -/
namespace Go.Proofs.Ytjijemeabfiipaa
open Go.ChangeShapes Go.WideShapes Go.ChangeAt Go.RowKit
set_option maxRecDepth 100000
set_option linter.unusedSimpArgs false

def TreeP (D : PH) (t : Nat) (T : TM) : Prop := ∃ nv fv ns, ns.map Prod.snd = T.nodes ∧ ∀ W : World, PH.le D (heapOf W) → ∃ l, TreeS W (fun _ => none) W t nv fv ns T.free T.k l
theorem TreeP.mono {D D' : PH} {t : Nat} {T : TM} (h : TreeP D t T) (le : PH.le D D') : TreeP D' t T := by
  obtain ⟨nv, fv, ns, h1, h2⟩ := h
  exact ⟨nv, fv, ns, h1, fun W hW => h2 W (le.trans hW)⟩

/-- what a leaf tells -/
def NodeM.tell (m : NodeM) (s : Spn) (n : Nat) : List (Val × VT) := ((m.keys.zip m.vals).take n).filter (fun p => spanIn s p.1)
theorem tell_succ {m : NodeM} {s : Spn} {j : Nat} {x : Val} {v : VT} (hx : m.keys[j]? = some x) (hv : m.vals[j]? = some v) : m.tell s (j + 1) = m.tell s j ++ (if spanIn s x then [(x, v)] else []) := by
  have hz : (m.keys.zip m.vals)[j]? = some (x, v) := by rw [List.getElem?_zip_eq_some]; exact ⟨hx, hv⟩
  unfold NodeM.tell
  rw [List.take_add_one, hz, List.filter_append]
  cases h : spanIn s x <;> simp [h]

set_option maxHeartbeats 8000000 in
theorem through_leaf {n₀ : Nat} {Ow : World → Nat → Prop} (hO : Owner n₀ Ow) {D : PH} {t l i N : Nat} {T : TM} {m : NodeM} {s : Spn} {J Jx : List (Val × VT) → World → Prop}
    (hJ : ∀ pre W W', J pre W → Kept (fun _ => False) W W' → J pre W')
    (hY : ∀ n pre x W, J pre W → pre.length < N → YieldAt Fence.wide n Try.prog l #[x.1.v, .int .i64 x.2] W fun e W' => (e = .returned (.bool true) ∧ J (pre ++ [x]) W' ∧ KpO Ow W W') ∨ (e = .returned (.bool false) ∧ Jx (pre ++ [x]) W'))
    (hi : T.nodes[i]? = some m) (hl : m.leaf = true) (hv : m.vals.length = m.keys.length) (hkb : m.keys.length ≤ 1000) (hT : TreeP D t T)
    (pre : List (Val × VT)) (W : World) (hj : J pre W) (hN : pre.length + (m.tell s m.keys.length).length ≤ N) (hit : ItOk n₀ Ow D W) :
    Calls Try.prog 33 #[.pointer (some ⟨t, 0, none⟩), .int .i64 i, s.v, .func (.yield l) #[] #[]] W fun e W' =>
      (e = .returned (.bool true) ∧ J (pre ++ m.tell s m.keys.length) W' ∧ ItOk n₀ Ow D W') ∨ (e = .returned (.bool false) ∧ ∃ q, q <+: m.tell s m.keys.length ∧ Jx (pre ++ q) W') := by
  obtain ⟨nv, fv, ns, hns, hTS⟩ := hT
  obtain ⟨⟨kv, vv, dv⟩, hp⟩ := get_node hns hi
  have hlt := (List.getElem?_eq_some_iff.1 hp).1
  obtain ⟨l0, hs0⟩ := hTS W hit.le
  obtain ⟨g, c, rfl, _, hcm⟩ := hs0.nv_some (by omega)
  unfold maxLen at hcm
  have hib : (i : Int) < (ns.length : Int) := by omega
  obtain ⟨ko, kc, hkv⟩ := (hs0.focus hp).own_shape
  obtain ⟨vo, vc, hvv⟩ := (hs0.focus hp).drop.own_shape
  obtain ⟨dO, dc, hdv⟩ := (hs0.focus hp).drop.drop.own_shape
  dsimp only at hkv hvv hdv
  subst hkv hvv hdv
  have hk1 : Kept (fun _ => False) W (W.alloc (.cells s.cells tS)) := (Kept.refl _ _).alloc _
  have hb1 : (W.alloc (.cells s.cells tS)).heap[W.heap.size]? = some (.cells s.cells tS (0, 0)) := heap_alloc_self W _
  have HI1 := Lib.hid (hit.new hO hk1 hb1 (Nat.le_refl _))
  have HLE1 := Lib.hid (hit.with_le (.cells s.cells tS (0, 0)) (Nat.le_refl _))
  have HK1 := Lib.hid hk1
  have HB1 := Lib.hid hb1
  have HTS := Lib.hid hTS
  have HP := Lib.hid hp
  have HO := Lib.hid hO
  have HJ := Lib.hid hJ
  have HY := Lib.hid hY
  have HJ1 := Lib.hid (hJ _ _ _ hj hk1)
  have HL := Lib.hid hl
  have HVL := Lib.hid hv
  clear hk1 hb1 hTS hp hit hO hJ hY hj hl hs0 hns hi hv
  dsimp only [Spn.v]
  go_enter Try.func33, Try.ntmps33
  go_upto_region 1 with (fail)
  obtain ⟨W1, hW1⟩ : ∃ W1, W1 = W.alloc (.cells s.cells tS) := ⟨_, rfl⟩
  dsimp only [Spn.cells] at hW1
  rw [← hW1]
  dsimp only [Spn.cells] at HI1 HLE1 HK1 HB1 HJ1
  rw [← hW1] at HK1 HB1 HI1 HJ1
  generalize hD1 : D.with W.heap.size (.cells #[.bool s.no, .bool s.hasLo, .bool s.openLo, .bool s.lo.t, .int .i64 s.lo.n, .string s.lo.s, .bool s.hasHi, .bool s.openHi, .bool s.hi.t, .int .i64 s.hi.n, .string s.hi.s] tS (0, 0)) = D1 at HI1 HLE1
  have HD1 := Lib.hid (show D1 W.heap.size = some (.cells #[.bool s.no, .bool s.hasLo, .bool s.openLo, .bool s.lo.t, .int .i64 s.lo.n, .string s.lo.s, .bool s.hasHi, .bool s.openHi, .bool s.hi.t, .int .i64 s.hi.n, .string s.hi.s] tS (0, 0)) by rw [← hD1]; exact PH.with_self _ _ _)
  generalize W.heap.size = bs at HB1 HD1 ⊢
  clear hW1 hD1
  obtain ⟨l1, hs1⟩ := HTS.out W1 (HLE1.out.trans HI1.out.le)
  obtain ⟨t0, t1, t2, t3, t4, tf⟩ := hs1.tcells
  obtain ⟨n0, n1, n2, n3, nf⟩ := hs1.node_cells HP.out
  dsimp only at n0 n1 n2 n3
  rw [HL.out] at n0
  have hb3 := ((Sat.start W1).alloc #[.bool true, .slice ko m.keys.length kc, .slice vo m.vals.length vc, .slice dO m.kids.length dc] tN)
  have HB3 := Lib.hid hb3
  clear hs1 hb3
  go_upto_region 2 with (fail)
  obtain ⟨W2, hW2, hs2⟩ := HB3.out.hide
  rw [← hW2]
  have hk2 : Kept (fun _ => False) W1 W2 := hs2.drop.end_ (PH.le.refl _)
  have hb2 := hs2.blk 0 rfl
  have HI2 := Lib.hid (HI1.out.new HO.out hk2 hb2 (Nat.le_refl _))
  have HLE2 := Lib.hid (HLE1.out.trans (HI1.out.with_le (.cells #[.bool true, .slice ko m.keys.length kc, .slice vo m.vals.length vc, .slice dO m.kids.length dc] tN (0, 0)) (Nat.le_refl _)))
  have HJ2 := Lib.hid (HJ.out _ _ _ HJ1.out hk2)
  generalize hD2 : D1.with W1.heap.size (.cells #[.bool true, .slice ko m.keys.length kc, .slice vo m.vals.length vc, .slice dO m.kids.length dc] tN (0, 0)) = D2 at HI2 HLE2
  have HDS := Lib.hid (show D2 bs = some (.cells #[.bool s.no, .bool s.hasLo, .bool s.openLo, .bool s.lo.t, .int .i64 s.lo.n, .string s.lo.s, .bool s.hasHi, .bool s.openHi, .bool s.hi.t, .int .i64 s.hi.n, .string s.hi.s] tS (0, 0)) by
    rw [← hD2]
    exact HI1.out.with_le _ (Nat.le_refl _) _ _ HD1.out)
  have HDN := Lib.hid (show D2 W1.heap.size = some (.cells #[.bool true, .slice ko m.keys.length kc, .slice vo m.vals.length vc, .slice dO m.kids.length dc] tN (0, 0)) by rw [← hD2]; exact PH.with_self _ _ _)
  clear hD2
  generalize W1.heap.size = bn at HDN ⊢
  clear hW2 hs2 hk2 hb2 HB3 HB1 HI1 HLE1 HJ1 HD1 HK1 t0 t1 t2 t3 t4 tf n0 n1 n2 n3 nf
  obtain ⟨N0, hN0⟩ : ∃ N0, m.keys.length = N0 := ⟨_, rfl⟩
  have HN0 := Lib.hid hN0
  have HVN := Lib.hid (HVL.out.trans hN0)
  obtain ⟨s0, s1, s2, s3, s4, s5, s6, s7, s8, s9, s10⟩ := Spn.at (s := s) (HI2.out.le _ _ HDS.out)
  obtain ⟨m0, m1, m2, m3, mf⟩ := cells4 (HI2.out.le _ _ HDN.out)
  rw [hN0] at hN HP HDN hkb m1 ⊢
  rw [HVN.out] at HP HDN m2
  clear hN0
  clear s0 s1 s2 s3 s4 s5 s6 s7 s8 s9 s10 mf
  go_wp2_with (fail)
  clear m0 m1 m2 m3
  go_loopw [28] (fun idx wr => ∃ j : Nat, idx = .int .i64 j ∧ j ≤ N0 ∧ J (pre ++ m.tell s j) wr ∧ ItOk n₀ Ow D2 wr) (fun idx _ => N0 - (intOf idx).toNat)
  case atStart => exact ⟨0, rfl, Nat.zero_le _, by simpa [NodeM.tell] using HJ2.out, HI2.out⟩
  case round =>
    obtain ⟨j, rfl, hjN, hj, hit⟩ := hrel
    by_cases hlt2 : j < N0
    · obtain ⟨x, hx⟩ : ∃ x, m.keys[j]? = some x := ⟨m.keys[j]'(by rw [HN0.out]; exact hlt2), List.getElem?_eq_getElem _⟩
      obtain ⟨v, hv⟩ : ∃ v, m.vals[j]? = some v := ⟨m.vals[j]'(by rw [HVN.out]; exact hlt2), List.getElem?_eq_getElem _⟩
      have HSUC := Lib.hid (tell_succ (s := s) hx hv)
      obtain ⟨lr, hsr⟩ := HTS.out wr (HLE2.out.trans hit.le)
      have hrk := hsr.keys_rd HP.out
      have hrv := hsr.vals_rd HP.out
      dsimp only at hrk hrv
      rw [HN0.out] at hrk
      obtain ⟨kg, rfl⟩ : ∃ kg, ko = some ⟨kg, 0, none⟩ := by
        obtain ⟨g2, c2, h2, _⟩ := some_shape (Sat.own (hsr.focus HP.out) 0 rfl) (by show 0 < m.keys.length; rw [HN0.out]; omega)
        dsimp only at h2
        rw [Value.slice.injEq] at h2
        exact ⟨g2, h2.1⟩
      obtain ⟨vg, rfl⟩ : ∃ vg, vo = some ⟨vg, 0, none⟩ := by
        obtain ⟨g2, c2, h2, _⟩ := some_shape (Sat.own (hsr.focus HP.out) 1 rfl) (by show 0 < m.vals.length; rw [HVN.out]; omega)
        dsimp only at h2
        rw [Value.slice.injEq] at h2
        exact ⟨g2, h2.1⟩
      obtain ⟨y0, y1, y2⟩ := key_cells hrk hx
      simp only [Nat.zero_add] at y0 y1 y2
      have hk3 : Kept (fun _ => False) wr (wr.alloc (.cells #[.bool x.t, .int .i64 x.n, .string x.s] tV)) := (Kept.refl _ _).alloc _
      have hb3 : (wr.alloc (.cells #[.bool x.t, .int .i64 x.n, .string x.s] tV)).heap[wr.heap.size]? = some (.cells #[.bool x.t, .int .i64 x.n, .string x.s] tV (0, 0)) := heap_alloc_self wr _
      have HI3 := Lib.hid (hit.new HO.out hk3 hb3 (Nat.le_refl _))
      have HLE3 := Lib.hid (hit.with_le (.cells #[.bool x.t, .int .i64 x.n, .string x.s] tV (0, 0)) (Nat.le_refl _))
      have HJ3 := Lib.hid (HJ.out _ _ _ hj hk3)
      have HX := Lib.hid hx
      have HV := Lib.hid hv
      have hib2 : (j : Int) < (N0 : Int) := by omega
      clear hsr hrk hrv hk3 hb3 hj hit hx hv
      go_upto_region 6 with (fail)
      obtain ⟨W3, hW3⟩ : ∃ W3, W3 = wr.alloc (.cells #[.bool x.t, .int .i64 x.n, .string x.s] tV) := ⟨_, rfl⟩
      rw [← hW3] at HI3 HJ3 ⊢
      generalize hD3 : D2.with wr.heap.size (.cells #[.bool x.t, .int .i64 x.n, .string x.s] tV (0, 0)) = D3 at HI3 HLE3
      have HDK := Lib.hid (show D3 wr.heap.size = some (.cells #[.bool x.t, .int .i64 x.n, .string x.s] tV (0, 0)) by rw [← hD3]; exact PH.with_self _ _ _)
      generalize wr.heap.size = bk at HDK ⊢
      clear hW3 hD3 y0 y1 y2
      have hcell : ∀ W' : World, ItOk n₀ Ow D3 W' → W'.cell? ⟨vg, j, none⟩ = some (.int .i64 v) := by
        intro W' hI
        obtain ⟨lr, hsr⟩ := HTS.out W' ((HLE2.out.trans HLE3.out).trans hI.le)
        have hrv := hsr.vals_rd HP.out
        dsimp only at hrv
        rw [HVN.out] at hrv
        obtain ⟨_, _, hv, _, _, _, hc⟩ := hrv.2.2
        cases hv
        rcases hc with h0 | ⟨_, _, hg, hc⟩
        · omega
        · cases hg
          have := hc _ _ (flat_get vlen m.vals j v HV.out 0 _ rfl)
          simpa using this
      have HCELL := Lib.hid hcell
      obtain ⟨s0, s1, s2, s3, s4, s5, s6, s7, s8, s9, s10⟩ := Spn.at (s := s) (HI3.out.le _ _ (HLE3.out _ _ HDS.out))
      obtain ⟨x0, x1, x2, xf⟩ := cells3 (HI3.out.le _ _ HDK.out)
      clear hcell
      cases hin : spanIn s x
      · have HIN := Lib.hid hin
        clear hin
        refine (wpIn_wide (n := 0)).1 ?_
        refine wpIn_region_canon [(0, false, 2), (1, false, 2), (2, true, 0), (3, false, 11), (4, false, 11), (5, false, 11), (6, false, 11), (7, false, 11), (8, false, 11), (9, false, 11), (10, false, 11), (11, true, 0), (12, false, 999), (13, false, 999)] (by kernel_rfl) (by kernel_rfl) ?_
        iterate 2 (refine wpCanI_read rfl rfl (fun K hK => ?_); go_simp; refine hK _ ?_; clear hK K)
        refine wpCanI_eff rfl ?_
        refine wpListIn_do rfl (fun K hK => ?_)
        go_simp
        refine ⟨trivial, rfl, callsIn_wide.2 ((within_ok s x _).mono ?_)⟩
        rintro e4 w4 ⟨rfl, hk4⟩
        have hk4' : Kept (fun _ => False) W3 w4 := ((Kept.refl _ _).drew).trans hk4 (fun _ h => h.elim)
        have HI4 := Lib.hid (HI3.out.kept HO.out hk4')
        have HJ4 := Lib.hid (HJ.out _ _ _ HJ3.out hk4')
        rw [HIN.out]
        clear hk4 hk4' s0 s1 s2 s3 s4 s5 s6 s7 s8 s9 s10 x0 x1 x2 xf
        refine hK _ _ ?_
        clear hK K
        refine wpListIn_nil ?_
        refine And.intro ?_ ?_
        · go_simp
        iterate 1 (refine wpCanI_read rfl rfl (fun K hK => ?_); go_simp; refine hK _ ?_; clear hK K)
        first | (refine wpCanI_no rfl rfl ?_; simp only [Act.put, List.setIfInBounds_toArray, List.set_cons_succ, List.set_cons_zero, List.getElem_toArray, List.getElem_cons_succ, List.getElem_cons_zero]) | (refine wpCanI_yes rfl rfl (fun K hK => ?_); go_simp; refine hK _ ?_; clear hK K)
        first | (refine wpCanI_no rfl rfl ?_; simp only [Act.put, List.setIfInBounds_toArray, List.set_cons_succ, List.set_cons_zero, List.getElem_toArray, List.getElem_cons_succ, List.getElem_cons_zero]) | (refine wpCanI_yes rfl rfl (fun K hK => ?_); go_simp; refine hK _ ?_; clear hK K)
        first | (refine wpCanI_no rfl rfl ?_; simp only [Act.put, List.setIfInBounds_toArray, List.set_cons_succ, List.set_cons_zero, List.getElem_toArray, List.getElem_cons_succ, List.getElem_cons_zero]) | (refine wpCanI_yes rfl rfl (fun K hK => ?_); go_simp; refine hK _ ?_; clear hK K)
        first | (refine wpCanI_no rfl rfl ?_; simp only [Act.put, List.setIfInBounds_toArray, List.set_cons_succ, List.set_cons_zero, List.getElem_toArray, List.getElem_cons_succ, List.getElem_cons_zero]) | (refine wpCanI_yes rfl rfl (fun K hK => ?_); go_simp; refine hK _ ?_; clear hK K)
        first | (refine wpCanI_no rfl rfl ?_; simp only [Act.put, List.setIfInBounds_toArray, List.set_cons_succ, List.set_cons_zero, List.getElem_toArray, List.getElem_cons_succ, List.getElem_cons_zero]) | (refine wpCanI_yes rfl rfl (fun K hK => ?_); go_simp; refine hK _ ?_; clear hK K)
        first | (refine wpCanI_no rfl rfl ?_; simp only [Act.put, List.setIfInBounds_toArray, List.set_cons_succ, List.set_cons_zero, List.getElem_toArray, List.getElem_cons_succ, List.getElem_cons_zero]) | (refine wpCanI_yes rfl rfl (fun K hK => ?_); go_simp; refine hK _ ?_; clear hK K)
        first | (refine wpCanI_no rfl rfl ?_; simp only [Act.put, List.setIfInBounds_toArray, List.set_cons_succ, List.set_cons_zero, List.getElem_toArray, List.getElem_cons_succ, List.getElem_cons_zero]) | (refine wpCanI_yes rfl rfl (fun K hK => ?_); go_simp; refine hK _ ?_; clear hK K)
        refine wpCanI_eff rfl ?_
        refine wpListIn_not rfl ?_
        simp only [Act.put, List.setIfInBounds_toArray, List.set_cons_succ, List.set_cons_zero]
        refine wpListIn_nil ?_
        refine And.intro ?_ ?_
        · go_simp
        first | (refine wpCanI_no rfl rfl ?_; simp only [Act.put, List.setIfInBounds_toArray, List.set_cons_succ, List.set_cons_zero, List.getElem_toArray, List.getElem_cons_succ, List.getElem_cons_zero]) | (refine wpCanI_yes rfl rfl (fun K hK => ?_); go_simp; refine hK _ ?_; clear hK K)
        iterate 1 (refine wpCanI_read rfl rfl (fun K hK => ?_); go_simp; refine hK _ ?_; clear hK K)
        refine wpCanI_nil ?_
        go_wp2_with fail
        go_roundw
        case rel => exact ⟨j + 1, by go_num, by omega, by rw [HSUC.out, HIN.out]; simpa using HJ4.out, HI4.out.less HLE3.out⟩
        case measure => simp [intOf]; omega
      · have HIN := Lib.hid hin
        clear hin
        refine (wpIn_wide (n := 0)).1 ?_
        refine wpIn_region_canon [(0, false, 2), (1, false, 2), (2, true, 0), (3, false, 11), (4, false, 11), (5, false, 11), (6, false, 11), (7, false, 11), (8, false, 11), (9, false, 11), (10, false, 11), (11, true, 0), (12, false, 999), (13, false, 999)] (by kernel_rfl) (by kernel_rfl) ?_
        iterate 2 (refine wpCanI_read rfl rfl (fun K hK => ?_); go_simp; refine hK _ ?_; clear hK K)
        refine wpCanI_eff rfl ?_
        refine wpListIn_do rfl (fun K hK => ?_)
        go_simp
        refine ⟨trivial, rfl, callsIn_wide.2 ((within_ok s x _).mono ?_)⟩
        rintro e4 w4 ⟨rfl, hk4⟩
        have hk4' : Kept (fun _ => False) W3 w4 := ((Kept.refl _ _).drew).trans hk4 (fun _ h => h.elim)
        have hI4 := HI3.out.kept HO.out hk4'
        have hJ4 := HJ.out _ _ _ HJ3.out hk4'
        have hlen : (pre ++ m.tell s j).length < N := by
          have e := HSUC.out
          rw [HIN.out, if_pos rfl] at e
          have e1 : (m.tell s (j + 1)).length ≤ (m.tell s N0).length := by
            unfold NodeM.tell
            exact List.Sublist.length_le (((List.take_sublist_take_left (by omega))).filter _)
          rw [e, List.length_append, List.length_singleton] at e1
          rw [List.length_append]
          omega
        obtain ⟨fn, tm, asg, bd, hy, hR⟩ := HY.out 0 _ (x, v) w4 hJ4 hlen
        dsimp only at hy hR
        clear s0 s1 s2 s3 s4 s5 s6 s7 s8 s9 s10 x0 x1 x2 xf
        obtain ⟨s0, s1, s2, s3, s4, s5, s6, s7, s8, s9, s10⟩ := Spn.at (s := s) (hI4.le _ _ (HLE3.out _ _ HDS.out))
        obtain ⟨x0, x1, x2, xf⟩ := cells3 (hI4.le _ _ HDK.out)
        obtain ⟨m0, m1, m2, m3, mf⟩ := cells4 (hI4.le _ _ (HLE3.out _ _ HDN.out))
        have hvc := HCELL.out _ hI4
        have HI4 := Lib.hid hI4
        have HR := Lib.hid hR
        rw [HIN.out]
        clear hk4 hk4' hI4 hJ4 hlen hR
        refine hK _ _ ?_
        clear hK K
        refine wpListIn_nil ?_
        refine And.intro ?_ ?_
        · go_simp
        iterate 1 (refine wpCanI_read rfl rfl (fun K hK => ?_); go_simp; refine hK _ ?_; clear hK K)
        first | (refine wpCanI_no rfl rfl ?_; simp only [Act.put, List.setIfInBounds_toArray, List.set_cons_succ, List.set_cons_zero, List.getElem_toArray, List.getElem_cons_succ, List.getElem_cons_zero]) | (refine wpCanI_yes rfl rfl (fun K hK => ?_); go_simp; refine hK _ ?_; clear hK K)
        first | (refine wpCanI_no rfl rfl ?_; simp only [Act.put, List.setIfInBounds_toArray, List.set_cons_succ, List.set_cons_zero, List.getElem_toArray, List.getElem_cons_succ, List.getElem_cons_zero]) | (refine wpCanI_yes rfl rfl (fun K hK => ?_); go_simp; refine hK _ ?_; clear hK K)
        first | (refine wpCanI_no rfl rfl ?_; simp only [Act.put, List.setIfInBounds_toArray, List.set_cons_succ, List.set_cons_zero, List.getElem_toArray, List.getElem_cons_succ, List.getElem_cons_zero]) | (refine wpCanI_yes rfl rfl (fun K hK => ?_); go_simp; refine hK _ ?_; clear hK K)
        first | (refine wpCanI_no rfl rfl ?_; simp only [Act.put, List.setIfInBounds_toArray, List.set_cons_succ, List.set_cons_zero, List.getElem_toArray, List.getElem_cons_succ, List.getElem_cons_zero]) | (refine wpCanI_yes rfl rfl (fun K hK => ?_); go_simp; refine hK _ ?_; clear hK K)
        first | (refine wpCanI_no rfl rfl ?_; simp only [Act.put, List.setIfInBounds_toArray, List.set_cons_succ, List.set_cons_zero, List.getElem_toArray, List.getElem_cons_succ, List.getElem_cons_zero]) | (refine wpCanI_yes rfl rfl (fun K hK => ?_); go_simp; refine hK _ ?_; clear hK K)
        first | (refine wpCanI_no rfl rfl ?_; simp only [Act.put, List.setIfInBounds_toArray, List.set_cons_succ, List.set_cons_zero, List.getElem_toArray, List.getElem_cons_succ, List.getElem_cons_zero]) | (refine wpCanI_yes rfl rfl (fun K hK => ?_); go_simp; refine hK _ ?_; clear hK K)
        first | (refine wpCanI_no rfl rfl ?_; simp only [Act.put, List.setIfInBounds_toArray, List.set_cons_succ, List.set_cons_zero, List.getElem_toArray, List.getElem_cons_succ, List.getElem_cons_zero]) | (refine wpCanI_yes rfl rfl (fun K hK => ?_); go_simp; refine hK _ ?_; clear hK K)
        refine wpCanI_eff rfl ?_
        refine wpListIn_do rfl (fun K hK => ?_)
        go_simp
        refine ⟨rfl, HR.out.mono ?_⟩
        intro e5 w5 h5
        obtain ⟨bb, rfl, hyes, hno⟩ : ∃ bb, e5 = .returned (.bool bb) ∧ (bb = true → J (pre ++ m.tell s j ++ [(x, v)]) w5 ∧ KpO Ow w4 w5) ∧ (bb = false → Jx (pre ++ m.tell s j ++ [(x, v)]) w5) := by
          rcases h5 with ⟨rfl, a, b⟩ | ⟨rfl, a⟩
          · exact ⟨true, rfl, fun _ => ⟨a, b⟩, fun h => (by cases h)⟩
          · exact ⟨false, rfl, fun h => (by cases h), fun _ => a⟩
        have HYES := Lib.hid hyes
        have HNO := Lib.hid hno
        clear hyes hno h5 hy HR s0 s1 s2 s3 s4 s5 s6 s7 s8 s9 s10 x0 x1 x2 xf m0 m1 m2 m3 mf hvc
        refine hK _ _ ?_
        clear hK K
        refine wpListIn_nil ?_
        refine And.intro ?_ ?_
        · go_simp
        first | (refine wpCanI_no rfl rfl ?_; simp only [Act.put, List.setIfInBounds_toArray, List.set_cons_succ, List.set_cons_zero, List.getElem_toArray, List.getElem_cons_succ, List.getElem_cons_zero]) | (refine wpCanI_yes rfl rfl (fun K hK => ?_); go_simp; refine hK _ ?_; clear hK K)
        iterate 1 (refine wpCanI_read rfl rfl (fun K hK => ?_); go_simp; refine hK _ ?_; clear hK K)
        refine wpCanI_nil ?_
        cases bb
        · go_wp2_with fail
          go_ret
          refine .inr ⟨rfl, m.tell s j ++ [(x, v)], ?_, by rw [← List.append_assoc]; exact HNO.out (by trivial)⟩
          have e := HSUC.out
          rw [HIN.out, if_pos rfl] at e
          rw [← e, HN0.out]
          unfold NodeM.tell
          have h1 : ((m.keys.zip m.vals).take (j + 1)) <+: ((m.keys.zip m.vals).take N0) := List.take_prefix_take_left (by omega)
          exact h1.filter _
        · go_wp2_with fail
          go_roundw
          case rel => exact ⟨j + 1, by go_num, by omega, by rw [HSUC.out, HIN.out, if_pos rfl, ← List.append_assoc]; exact (HYES.out (by trivial)).1, (HI4.out.kp (HYES.out (by trivial)).2).less HLE3.out⟩
          case measure => simp [intOf]; omega
    · obtain rfl : j = N0 := by omega
      have HJ9 := Lib.hid hj
      have HI9 := Lib.hid hit
      clear hj hit
      go_wp2_with (fail)
      go_ret
      exact .inl ⟨rfl, by rw [HN0.out]; exact HJ9.out, HI9.out.less HLE2.out⟩
end Go.Proofs.Ytjijemeabfiipaa
