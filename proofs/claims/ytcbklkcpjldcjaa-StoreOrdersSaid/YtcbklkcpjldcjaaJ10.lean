/- Joined texts: Of no program: Canon's law inside the wide fence, where a round may be called. Spans (api.Span): their cells; what lies within. Of no program: what an iterator reads beside a loop's body that owns something of its own. Of no program: a box that holds a row of one's own, beside an iterator; what a tree reads lies in cells alone. Of no program: the invariant of a loop over an iterator whose body appends to a row in a box. Of no program: a loop over an iterator that hands over what it has made for the round. -/
import Derived.Test.YtcbklkcpjldcjaaJ1
import Derived.RegionIn
import Derived.Test.YtcbklkcpjldcjaaJ4
import Derived.RangeFuncNested
import Derived.RangeFuncBound
import Derived.RangeFuncCalls
import Derived.RangeFuncLeaves
import Derived.WalkKit
import Derived.OwnWalkIn
import Derived.TacticsInMore
import Derived.LoopNIn
import Derived.LoopIn
import Derived.Shelf.Abstract
/- Of no program: Canon's law inside the wide fence, where a round may be called. -/
namespace Go.Proofs.Ytcbklkcpjldcjaa
open Go.ChangeShapes Go.WideShapes Go.ChangeAt Go.RowKit

section
variable {n : Nat} {P : Program} {ops : Array Oper} {Q : Exit → Act → World → Prop}

def wpCanI (n : Nat) (P : Program) (ops : Array Oper) (Q : Exit → Act → World → Prop) : List (Nat × Bool × Nat) → List Pend → Act → World → Prop
  | [], _, a, w => Q .normal a w
  | (i, e, k) :: rest, pend, a, w => ∃ o, ops[i]? = some o ∧
    match e with
    | false => if Region.wanted o (yielded ops a.tmps) then o.still P a w (fun b => wpCanI n P ops Q rest (⟨o, a, b, k⟩ :: pend) b w) else wpCanI n P ops Q rest (⟨o, a, a, k⟩ :: pend) (a.put o.dst undef) w
    | true => wpListIn Fence.wide n P ops (effQ Q fun b w' => allOk P ops i pend w' ∧ wpCanI n P ops Q rest (keepPend i pend) b w') [o] a w

theorem wpCanI_nil {pend : List Pend} {a : Act} {w : World} (h : Q .normal a w) : wpCanI n P ops Q [] pend a w := h

theorem wpCanI_eff {i k : Nat} {rest : List (Nat × Bool × Nat)} {pend : List Pend} {a : Act} {w : World} {o : Oper} (ho : ops[i]? = some o)
    (h : wpListIn Fence.wide n P ops (effQ Q fun b w' => allOk P ops i pend w' ∧ wpCanI n P ops Q rest (keepPend i pend) b w') [o] a w) : wpCanI n P ops Q ((i, true, k) :: rest) pend a w :=
  ⟨o, ho, h⟩

/-- one that is carried out and only reads -/
theorem wpCanI_read {i k : Nat} {rest : List (Nat × Bool × Nat)} {pend : List Pend} {a : Act} {w : World} {o : Oper} (ho : ops[i]? = some o) (hg : o.guard = none)
    (h : ∀ K : Act → Prop, (∀ b, wpCanI n P ops Q rest (⟨o, a, b, k⟩ :: pend) b w → K b) → o.still P a w K) : wpCanI n P ops Q ((i, false, k) :: rest) pend a w := by
  refine ⟨o, ho, ?_⟩
  dsimp only
  rw [if_pos (by simp [Region.wanted, hg])]
  exact h _ (fun _ h => h)
/-- one with a guard that says yes -/
theorem wpCanI_yes {i k : Nat} {rest : List (Nat × Bool × Nat)} {pend : List Pend} {a : Act} {w : World} {o : Oper} (ho : ops[i]? = some o) (hg : Region.wanted o (yielded ops a.tmps) = true)
    (h : ∀ K : Act → Prop, (∀ b, wpCanI n P ops Q rest (⟨o, a, b, k⟩ :: pend) b w → K b) → o.still P a w K) : wpCanI n P ops Q ((i, false, k) :: rest) pend a w := by
  refine ⟨o, ho, ?_⟩
  dsimp only
  rw [if_pos hg]
  exact h _ (fun _ h => h)
/-- one with a guard that says no -/
theorem wpCanI_no {i k : Nat} {rest : List (Nat × Bool × Nat)} {pend : List Pend} {a : Act} {w : World} {o : Oper} (ho : ops[i]? = some o) (hg : Region.wanted o (yielded ops a.tmps) = false)
    (h : wpCanI n P ops Q rest (⟨o, a, a, k⟩ :: pend) (a.put o.dst undef) w) : wpCanI n P ops Q ((i, false, k) :: rest) pend a w := by
  refine ⟨o, ho, ?_⟩
  dsimp only
  rw [if_neg (by simp [hg])]
  exact h

def wpAnyEI (n : Nat) (P : Program) (ops : Array Oper) (Q : Exit → Act → World → Prop) (S : Array Bool → World → Prop) : Nat → Array Bool → Act → World → Prop
  | 0, listed, a, w => Region.ready .any ops listed = [] ∧ Q .normal a w
  | fuel + 1, listed, a, w =>
    (Region.ready .any ops listed = [] → Q .normal a w) ∧
    ∀ i ∈ Region.ready .any ops listed, wpOpIn Fence.wide n P ops Q i (fun a' w' => S (listed.setIfInBounds i true) w' ∧ wpAnyEI n P ops Q S fuel (listed.setIfInBounds i true) a' w') a w

theorem wpAnyIn_of_EI {S : Array Bool → World → Prop} : ∀ (fuel : Nat) (listed : Array Bool) (a : Act) (w : World), wpAnyEI n P ops Q S fuel listed a w → wpAnyIn Fence.wide n P .any ops Q fuel listed a w
  | 0, _, _, _, h => h
  | fuel + 1, _, _, _, h => ⟨h.1, fun i hi => wpOpIn_mono (fun a' w' h' => wpAnyIn_of_EI fuel _ a' w' h'.2) (h.2 i hi)⟩

theorem wpAnyEI_mono {S S' : Array Bool → World → Prop} {G : Array Bool → Prop} (hG : ∀ l i, G l → G (l.setIfInBounds i true)) (hS : ∀ l w, G l → S l w → S' l w) :
    ∀ (fuel : Nat) (listed : Array Bool) (a : Act) (w : World), G listed → wpAnyEI n P ops Q S fuel listed a w → wpAnyEI n P ops Q S' fuel listed a w
  | 0, _, _, _, _, h => h
  | fuel + 1, listed, _, _, hl, h => ⟨h.1, fun i hi => wpOpIn_mono (fun a' w' h' => ⟨hS _ _ (hG listed i hl) h'.1, wpAnyEI_mono hG hS fuel _ a' w' (hG listed i hl) h'.2⟩) (h.2 i hi)⟩

theorem Oper.wpIn_of_still {o : Oper} {a : Act} {w : World} {K : Act → Prop} {K' : Act → World → Prop} {Q' : Exit → Act → World → Prop} (h : ∀ a, K a → K' a w) (hh : o.still P a w K) : o.wpIn Fence.wide n P a w K' Q' := by
  unfold Oper.still at hh
  unfold Oper.wpIn
  refine ⟨fun _ _ => trivial, ?_⟩
  rw [Fence.wide_round, Oper.semAt_none]
  generalize (execOp a.eval o).run P w = r at *
  cases r with
  | ok x w' =>
    cases x <;> simp only [Oper.stillUpon] at hh <;> simp only [Oper.uponIn]
    case enter f args =>
      obtain ⟨rfl, v, hc, hn⟩ := hh
      exact ⟨fun hd => (by cases hd), callsIn_wide.2 (hc.mono fun e w'' ⟨he, hw⟩ => by subst he; subst hw; exact h _ hn)⟩
    all_goals (obtain ⟨rfl, h2⟩ := hh; exact h _ h2)
  | halt x w' => simp only [Oper.stillUpon] at hh

theorem wpOpIn_of_stOp {i : Nat} {a : Act} {w : World} {K : Act → Prop} {K' : Act → World → Prop} {Q' : Exit → Act → World → Prop} (h : ∀ a, K a → K' a w) (hh : stOp P ops w i K a) : wpOpIn Fence.wide n P ops Q' i K' a w := by
  unfold stOp at hh
  unfold wpOpIn
  split
  · rename_i ho; simp only [ho] at hh; exact h _ hh
  · rename_i o ho
    simp only [ho] at hh
    split
    · rename_i hw; simp only [hw, if_true] at hh; exact Oper.wpIn_of_still h hh
    · rename_i hw; simp only [hw] at hh; exact ⟨fun _ _ => trivial, h _ hh⟩

theorem wpOpIn_putE {j : Nat} {oi oj : Oper} {v : Value} {a0 : Act} (hj : ops[j]? = some oj) (hap : oi.apart ops oj = true)
    (hsi : ∀ cs b, oi.op ≠ .select cs b) (hsj : ∀ cs b, oj.op ≠ .select cs b)
    (hQ : ∀ c a w, Q (.panic c) (a.put oi.dst v) w → Q (.panic c) a w) {K : Act → World → Prop} {a : Act} {w : World}
    (hy : AsAt ops oi a0 a) (h : wpOpIn Fence.wide n P ops Q j K (a.put oi.dst v) w) :
    wpOpIn Fence.wide n P ops Q j (fun a' w' => AsAt ops oi a0 a' ∧ K (a'.put oi.dst v) w') a w := by
  obtain ⟨h1, h2, h3⟩ := Oper.apart_spec hap
  have keep : ∀ (a : Act), AsAt ops oi a0 a → ∀ u, AsAt ops oi a0 (a.put oj.dst u) := fun a hy u => hy.put hsi oj.dst u h3
  have keepD : ∀ d, AsAt ops oi a0 { a with defers := d :: a.defers } := fun d => ⟨hy.1, hy.2.1, hy.2.2⟩
  unfold wpOpIn at *
  simp only [hj] at *
  rw [wanted_put oj a oi.dst v h1] at h
  split
  · rename_i hw
    simp only [hw, if_true] at h
    unfold Oper.wpIn at *
    refine ⟨fun _ _ => trivial, ?_⟩
    have h := h.2
    rw [Fence.wide_round, Oper.semAt_none, execOp_put oj hsj a oi.dst v h1] at h
    rw [Fence.wide_round, Oper.semAt_none]
    generalize (execOp a.eval oj).run P w = r at *
    cases r with
    | ok x w' =>
      cases x <;> simp only [Oper.uponIn] at h ⊢
      case value u => exact ⟨keep a hy u, by rw [← Act.put_comm a v u h2]; exact h⟩
      case skip => exact ⟨keep a hy _, by rw [← Act.put_comm a v undef h2]; exact h⟩
      case defer d =>
        refine ⟨keep _ (keepD d) _, ?_⟩
        rw [← Act.put_comm _ v undef h2, ← Act.put_defers]
        exact h
      case enter f args =>
        refine ⟨h.1, CallsIn.mono h.2 fun e w'' he => ?_⟩
        cases e with
        | returned u => exact ⟨keep a hy u, by rw [← Act.put_comm a v u h2]; exact he⟩
        | panicked c => exact hQ _ _ _ he
        | outgrown => exact he
      case row row args => exact ⟨h.1, RowsIn.mono h.2 fun u w'' he => ⟨keep a hy u, by rw [← Act.put_comm a v u h2]; exact he⟩⟩
      case round l f tmps assign body =>
        refine ⟨h.1, RoundIn.mono h.2 fun e w'' he => ?_⟩
        cases e with
        | returned u => exact ⟨keep a hy u, by rw [← Act.put_comm a v u h2]; exact he⟩
        | panicked c => exact hQ _ _ _ he
        | outgrown => exact he
    | halt x w' =>
      cases x <;> simp only [Oper.uponIn] at h ⊢
      case panic u => exact hQ _ _ _ h
  · rename_i hw
    simp only [hw] at h
    exact ⟨fun _ _ => trivial, keep a hy _, by rw [← Act.put_comm a v undef h2]; exact h.2⟩

theorem take_EI {i k : Nat} {oi : Oper} {v : Value} {a0 b0 : Act} {pend : List Pend} (hi : ops[i]? = some oi) (hsel : ∀ (j : Nat) (o : Oper) cs b, ops[j]? = some o → o.op ≠ .select cs b)
    (hb0 : Region.wanted oi (yielded ops a0.tmps) = true → b0 = a0.put oi.dst v) (hv : Region.wanted oi (yielded ops a0.tmps) = false → v = undef)
    (hk : k ≠ i) (hpk : ∀ x ∈ pend, x.k ≠ i) (hw : k < ops.size → ∃ n, waits ops n k i = true)
    (hQ : ∀ c a w, Q (.panic c) (a.put oi.dst v) w → Q (.panic c) a w) :
    ∀ (fuel : Nat) (listed : Array Bool) (a : Act) (w : World), listed.size = ops.size → ClosedL ops listed →
      (∀ j oj, ops[j]? = some oj → j ≠ i → listed.getD j true = false → (∀ e ∈ oj.after, Region.binds .any e = true → e.on ≠ i) → oi.apart ops oj = true) →
      i ∈ Region.ready .any ops listed → AsAt ops oi a0 a → (∃ v', YieldsAt P ops w oi v' a ∧ a0.put oi.dst v' = a0.put oi.dst v) → SP P ops pend listed w →
      wpAnyEI n P ops Q (SP P ops (⟨oi, a0, b0, k⟩ :: pend)) fuel (listed.setIfInBounds i true) (a.put oi.dst v) w → wpAnyEI n P ops Q (SP P ops pend) (fuel + 1) listed a w := by
  intro fuel
  have fin : ∀ {f : Nat} {listed : Array Bool} {a : Act} {w : World}, AsAt ops oi a0 a → (∃ v', YieldsAt P ops w oi v' a ∧ a0.put oi.dst v' = a0.put oi.dst v) → SP P ops pend listed w →
      wpAnyEI n P ops Q (SP P ops (⟨oi, a0, b0, k⟩ :: pend)) f (listed.setIfInBounds i true) (a.put oi.dst v) w →
      wpOpIn Fence.wide n P ops Q i (fun a' w' => SP P ops pend (listed.setIfInBounds i true) w' ∧ wpAnyEI n P ops Q (SP P ops pend) f (listed.setIfInBounds i true) a' w') a w := by
    intro f listed a w ha ⟨v', hy, he⟩ hS H
    refine wpOpIn_of_stOp (K := fun a' => a' = a.put oi.dst v) (fun a' ha' => ?_) (hy.stOp hi (put_same ha.2.2 he))
    subst ha'
    refine ⟨fun x hx hl => hS x hx ?_, wpAnyEI_mono (G := fun _ => True) (fun _ _ _ => trivial) (fun l w _ h x hx => h x (List.mem_cons_of_mem _ hx)) f _ _ _ trivial H⟩
    rw [getD_set_ne false (Ne.symm (hpk x hx))] at hl
    exact hl
  induction fuel with
  | zero =>
    intro listed a w hsz hc _ hr ha hy hS H
    refine ⟨fun h => (by rw [h] at hr; cases hr), fun j hj => ?_⟩
    by_cases hji : j = i
    · subst hji; exact fin ha hy hS H
    · have := ready_mono hj hji
      rw [H.1] at this
      cases this
  | succ fuel ih =>
    intro listed a w hsz hc hfree hr ha hy hS H
    refine ⟨fun h => (by rw [h] at hr; cases hr), fun j hj => ?_⟩
    by_cases hji : j = i
    · subst hji; exact fin ha hy hS H
    · have h1 := H.2 j (ready_mono hj hji)
      obtain ⟨hjun, oj, hoj, hall⟩ := mem_ready.1 hj
      have hiun := getD_both (mem_ready.1 hr).1
      have hnot : ∀ e ∈ oj.after, Region.binds .any e = true → e.on ≠ i := fun e he hb heq => by
        have h1 := hall e he hb
        rw [heq, hiun] at h1
        cases h1
      have h2 := wpOpIn_putE hoj (hfree j oj hoj hji hjun hnot) (fun cs b => hsel i oi cs b hi) (fun cs b => hsel j oj cs b hoj) hQ ha h1
      have hfree' : ∀ k ok, ops[k]? = some ok → k ≠ i → (listed.setIfInBounds j true).getD k true = false →
          (∀ e ∈ ok.after, Region.binds .any e = true → e.on ≠ i) → oi.apart ops ok = true := fun k ok hk hki hun hno => by
        refine hfree k ok hk hki ?_ hno
        by_cases hjk : j = k
        · subst hjk; exact hjun
        · rw [getD_set_ne true hjk] at hun; exact hun
      refine wpOpIn_mono (fun a' w' h3 => ?_) h2
      obtain ⟨ha', hS', h4⟩ := h3
      have hc' := hc.set hj
      have hkun : ∀ l : Array Bool, ClosedL ops l → l.size = ops.size → l.getD i false = false → l.getD k false = false := by
        intro l hcl hls hil
        by_cases hks : k < ops.size
        · obtain ⟨n, hn⟩ := hw hks
          cases hkl : l.getD k false with
          | false => rfl
          | true => rw [waits_listed hcl n k i hn hkl] at hil; cases hil
        · simp [Array.getElem?_eq_none (show l.size ≤ k by omega)]
      have hij : (listed.setIfInBounds j true).getD i false = false := by rw [getD_set_ne false hji]; exact hiun
      have hkj : (listed.setIfInBounds j true).getD k false = false := hkun _ hc' (by simpa using hsz) hij
      have hSP : SP P ops pend (listed.setIfInBounds j true) w' := fun x hx hl => by
        refine hS' x (List.mem_cons_of_mem _ hx) ?_
        rw [Array.setIfInBounds_comm _ _ (Ne.symm hji), getD_set_ne false (Ne.symm (hpk x hx))]
        exact hl
      refine ⟨hSP, ih (listed.setIfInBounds j true) a' w' (by simpa using hsz) hc' hfree' (ready_mono hr (Ne.symm hji)) ha' ?_ hSP ?_⟩
      · have hok := hS' ⟨oi, a0, b0, k⟩ (by simp) (by rw [Array.setIfInBounds_comm _ _ (Ne.symm hji), getD_set_ne false (Ne.symm hk)]; exact hkj)
        unfold Pend.ok at hok
        by_cases hwt : Region.wanted oi (yielded ops a0.tmps) = true
        · simp only [hwt, if_true] at hok
          obtain ⟨v', hv', he⟩ := yieldsAt_of_stOp hi (stOp_of (ops := ops) (K := fun b => b = b0) hi (by rw [if_pos hwt]; exact hok))
          exact ⟨v', YieldsAt.asAt hv' ha', he.trans (hb0 hwt)⟩
        · have hwf : Region.wanted oi (yielded ops a0.tmps) = false := by simpa using hwt
          exact ⟨v, .inr ⟨ha'.2.1.trans hwf, hv hwf⟩, rfl⟩
      · rw [Array.setIfInBounds_comm _ _ hji]
        exact h4
theorem wpCanI_any (hs : Region.noSelect ops = true) {Qn : Exit → Act → World → Prop} (hnorm : ∀ a w, Q .normal a w → Qn .normal a w) (hout : ∀ a w, Q .outgrown a w → Qn .outgrown a w)
    (hQ : ∀ c (a : Act) (d : Option Tmp) (v : Value) (w : World), Qn (.panic c) (a.put d v) w → Qn (.panic c) a w) (effs : List Nat) :
    ∀ (sched : List (Nat × Bool × Nat)) (pend : List Pend) (listed : Array Bool) (a : Act) (w : World), canonOk ops effs sched listed = true → listed.size = ops.size → ClosedL ops listed →
      (∀ x ∈ pend, ops.size ≤ x.k ∨ effs.contains x.k = true) → SP P ops pend listed w → wpCanI n P ops Q sched pend a w → wpAnyEI n P ops Qn (SP P ops pend) sched.length listed a w
  | [], pend, listed, a, w, hB, _, _, _, _, h => ⟨by simpa [canonOk] using hB, hnorm _ _ h⟩
  | (i, false, k) :: rest, pend, listed, a, w, hB, hsz, hc, hp, hS, h => by
    simp only [canonOk, Bool.and_eq_true, Bool.or_eq_true, decide_eq_true_eq, Bool.not_eq_true'] at hB
    obtain ⟨⟨⟨⟨hr, hf⟩, hne⟩, hk⟩, hB'⟩ := hB
    obtain ⟨o, ho, h⟩ := h
    dsimp only at h
    have hr' : i ∈ Region.ready .any ops listed := by simpa using hr
    have hilt : i < ops.size := (Array.getElem?_eq_some_iff.1 ho).1
    have hki : k ≠ i := fun e => by subst e; rcases hk with hk | hk; · omega
                                    · rw [hne] at hk; cases hk.1
    have hpk : ∀ x ∈ pend, x.k ≠ i := fun x hx e => by
      rcases hp x hx with h1 | h1
      · omega
      · rw [e, hne] at h1; cases h1
    have hw : k < ops.size → ∃ n, waits ops n k i = true := fun hlt => by
      rcases hk with hk | hk
      · omega
      · exact ⟨_, hk.2⟩
    have hc' := hc.set hr'
    have step : ∀ (b0 : Act) (v : Value), (Region.wanted o (yielded ops a.tmps) = true → b0 = a.put o.dst v) → (Region.wanted o (yielded ops a.tmps) = false → v = undef) → YieldsAt P ops w o v a →
        (⟨o, a, b0, k⟩ : Pend).ok P ops w → wpCanI n P ops Q rest (⟨o, a, b0, k⟩ :: pend) (a.put o.dst v) w → wpAnyEI n P ops Qn (SP P ops pend) ((i, false, k) :: rest).length listed a w := by
      intro b0 v hb0 hv hy hok hrest
      refine take_EI ho (Region.noSelect_spec hs) hb0 hv hki hpk hw (fun c a w => hQ c a _ _ w) rest.length listed a w hsz hc (Region.free_spec ho hf) hr' ⟨rfl, rfl, rfl⟩ ⟨v, hy, rfl⟩ hS ?_
      refine wpCanI_any hs hnorm hout hQ effs rest _ _ _ _ hB' (by simpa using hsz) hc' (fun x hx => ?_) (fun x hx hl => ?_) hrest
      · rcases List.mem_cons.1 hx with rfl | hx
        · rcases hk with hk | hk
          · exact .inl hk
          · exact .inr hk.1
        · exact hp x hx
      · rcases List.mem_cons.1 hx with rfl | hx
        · exact hok
        · refine hS x hx ?_
          rw [getD_set_ne false (Ne.symm (hpk x hx))] at hl
          exact hl
    by_cases hwt : Region.wanted o (yielded ops a.tmps) = true
    · rw [if_pos hwt] at h
      obtain ⟨v, hy, hK⟩ := yieldsAt_of_stOp (ops := ops) ho (stOp_of (ops := ops) ho (by rw [if_pos hwt]; exact h))
      refine step (a.put o.dst v) v (fun _ => rfl) (fun e => by rw [hwt] at e; cases e) hy ?_ hK
      have := hy.stOp ho (K := fun b => b = a.put o.dst v) rfl
      unfold stOp at this
      simp only [ho] at this
      unfold Pend.ok
      rw [if_pos hwt] at this ⊢
      exact this
    · have hwf : Region.wanted o (yielded ops a.tmps) = false := by simpa using hwt
      rw [if_neg hwt] at h
      exact step a undef (fun e => absurd e hwt) (fun _ => rfl) (.inr ⟨hwf, rfl⟩) (by unfold Pend.ok; rw [if_neg hwt]; trivial) h
  | (i, true, k) :: rest, pend, listed, a, w, hB, hsz, hc, hp, hS, h => by
    simp only [canonOk, Bool.and_eq_true, decide_eq_true_eq] at hB
    obtain ⟨⟨hr, he⟩, hB'⟩ := hB
    obtain ⟨o, ho, h⟩ := h
    dsimp only at h
    refine ⟨fun h0 => (by rw [h0] at hr; cases hr), fun j hj => ?_⟩
    have hji : j = i := by rw [hr] at hj; simpa using hj
    subst hji
    have hc' := hc.set hj
    have hsz' : (listed.setIfInBounds j true).size = ops.size := by simpa using hsz
    have hjlt : j < listed.size := by rw [hsz]; exact (Array.getElem?_eq_some_iff.1 ho).1
    have fin : ∀ b w', (allOk P ops j pend w' ∧ wpCanI n P ops Q rest (keepPend j pend) b w') →
        SP P ops pend (listed.setIfInBounds j true) w' ∧ wpAnyEI n P ops Qn (SP P ops pend) rest.length (listed.setIfInBounds j true) b w' := by
      intro b w' ⟨h1, h2⟩
      have hlist : (listed.setIfInBounds j true).getD j false = true := by simp [hjlt]
      have hSP : SP P ops pend (listed.setIfInBounds j true) w' := fun x hx hl => by
        by_cases hxj : x.k = j
        · rw [hxj, hlist] at hl; cases hl
        · exact allOk_mem h1 hx hxj
      refine ⟨hSP, ?_⟩
      have hk2 : SP P ops (keepPend j pend) (listed.setIfInBounds j true) w' := fun x hx hl => hSP x (keepPend_mem hx).1 hl
      have ih := wpCanI_any hs hnorm hout hQ effs rest _ _ _ _ hB' hsz' hc' (fun x hx => hp x (keepPend_mem hx).1) hk2 h2
      refine wpAnyEI_mono (G := fun l => l.getD j false = true) (fun l i hl => getD_set_true hl) (fun l w hl hh x hx hxl => ?_) _ _ _ _ hlist ih
      by_cases hxj : x.k = j
      · rw [hxj, hl] at hxl; cases hxl
      · exact hh x (mem_keepPend hx hxj) hxl
    unfold wpOpIn
    simp only [ho]
    unfold wpListIn at h
    split
    · rename_i hwt
      rw [if_pos hwt] at h
      unfold Oper.wpIn at *
      refine ⟨fun _ _ => trivial, ?_⟩
      have h := h.2
      generalize (o.semAt Fence.wide.round a.eval).run P w = r at *
      cases r with
      | ok x w' =>
        cases x <;> simp only [Oper.uponIn] at h ⊢
        case value u => exact fin _ _ h
        case skip => exact fin _ _ h
        case defer d => exact fin _ _ h
        case enter f args =>
          refine ⟨h.1, CallsIn.mono h.2 fun e w'' he => ?_⟩
          cases e with
          | returned u => exact fin _ _ he
          | panicked c => exact (he : False).elim
          | outgrown => obtain ⟨b, w3, h3⟩ := he; exact ⟨b, w3, hout _ _ h3⟩
        case row row args => exact ⟨h.1, RowsIn.mono h.2 fun u w'' he => fin _ _ he⟩
        case round l f tmps assign body =>
          refine ⟨h.1, RoundIn.mono h.2 fun e w'' he => ?_⟩
          cases e with
          | returned u => exact fin _ _ he
          | panicked c => exact (he : False).elim
          | outgrown => obtain ⟨b, w3, h3⟩ := he; exact ⟨b, w3, hout _ _ h3⟩
      | halt x w' =>
        cases x <;> simp only [Oper.uponIn] at h ⊢
        case panic u => exact (h : False).elim
    · rename_i hwt
      rw [if_neg hwt] at h
      exact ⟨fun _ _ => trivial, fin _ _ h.2⟩

/-- A REGION THAT DRAWS ITS ORDER, WALKED IN ONE ORDER. -/
theorem wpIn_region_canon {id : Nat} {a : Act} {w : World} {l : List Oper} (sched : List (Nat × Bool × Nat)) (hm : P.follows .mixedOrders = true)
    (hB : (Region.noSelect l.toArray && (decide (sched.length = l.length) && canonOk l.toArray ((sched.filter (·.2.1)).map (·.1)) sched (Array.replicate l.toArray.size false))) = true)
    (h : wpCanI n P l.toArray Q sched [] a w.drew) : (Code.region id l.toArray true).wpIn Fence.wide n P Q a w := by
  simp only [Bool.and_eq_true, decide_eq_true_eq] at hB
  obtain ⟨hs, hlen, hB⟩ := hB
  have key : wpAnyEI n P l.toArray (NoPanic Q) (SP P l.toArray []) sched.length (Array.replicate l.toArray.size false) a w.drew := by
    refine wpCanI_any (Q := Q) (Qn := NoPanic Q) hs (fun _ _ h => h) (fun _ _ h => h) (fun c a d v w h => (h : False).elim) _ sched [] _ a _ hB (by simp) (fun j o hj hl => ?_) (fun x hx => by cases hx) (fun x hx => by cases hx) h
    rw [getD_replicate_false] at hl
    cases hl
  have hz : sched.length = l.toArray.size := by simpa using hlen
  rw [hz] at key
  exact Code.wpIn_mono NoPanic.imp (wpIn_region_any hm (wpAnyIn_of_EI _ _ _ _ key))

/-! ### one operation that turns the world -/
theorem wpListIn_do {a : Act} {w : World} {rest : List Oper} {o : Oper} (hw : Region.wanted o (yielded ops a.tmps) = true) (h : ∀ K : Act → World → Prop, (∀ b w', wpListIn Fence.wide n P ops Q rest b w' → K b w') → o.wpIn Fence.wide n P a w K Q) : wpListIn Fence.wide n P ops Q (o :: rest) a w := by
  unfold wpListIn
  rw [if_pos hw]
  exact h _ (fun _ _ h => h)
theorem wpListIn_not {a : Act} {w : World} {rest : List Oper} {o : Oper} (hw : Region.wanted o (yielded ops a.tmps) = false) (h : wpListIn Fence.wide n P ops Q rest (a.put o.dst undef) w) : wpListIn Fence.wide n P ops Q (o :: rest) a w := by
  unfold wpListIn
  rw [if_neg (by simp [hw])]
  exact ⟨fun _ _ => trivial, h⟩
end
end Go.Proofs.Ytcbklkcpjldcjaa

/- Spans (api.Span): their cells; what lies within. -/
namespace Go.Proofs.Ytcbklkcpjldcjaa
open Go.ChangeShapes Go.WideShapes Go.ChangeAt Go.RowKit
set_option maxRecDepth 100000
set_option linter.unusedSimpArgs false

structure Spn where
  no : Bool
  hasLo : Bool
  openLo : Bool
  lo : Val
  hasHi : Bool
  openHi : Bool
  hi : Val
def Spn.cells (s : Spn) : Array Value := #[.bool s.no, .bool s.hasLo, .bool s.openLo, .bool s.lo.t, .int .i64 s.lo.n, .string s.lo.s, .bool s.hasHi, .bool s.openHi, .bool s.hi.t, .int .i64 s.hi.n, .string s.hi.s]
abbrev Spn.v (s : Spn) : Value := .agg #[.bool s.no, .bool s.hasLo, .bool s.openLo, .bool s.lo.t, .int .i64 s.lo.n, .string s.lo.s, .bool s.hasHi, .bool s.openHi, .bool s.hi.t, .int .i64 s.hi.n, .string s.hi.s]
abbrev tS : TypeId := 43
def spanLo (s : Spn) (v : Val) : Bool := s.hasLo && (decide (valCmp v s.lo < 0) || decide (valCmp v s.lo = 0) && s.openLo)
def spanHi (s : Spn) (v : Val) : Bool := !s.hasHi || decide (valCmp v s.hi < 0) || decide (valCmp v s.hi = 0) && !s.openHi
def spanIn (s : Spn) (v : Val) : Bool := !s.no && !spanLo s v && spanHi s v
theorem Spn.at {w : World} {b : Nat} {s : Spn} {t : TypeId} {fr : Nat × Nat} (h : w.heap[b]? = some (.cells s.cells t fr)) :
    w.cell? ⟨b, 0, none⟩ = some (.bool s.no) ∧ w.cell? ⟨b, 1, none⟩ = some (.bool s.hasLo) ∧ w.cell? ⟨b, 2, none⟩ = some (.bool s.openLo) ∧ w.cell? ⟨b, 3, none⟩ = some (.bool s.lo.t) ∧ w.cell? ⟨b, 4, none⟩ = some (.int .i64 s.lo.n) ∧ w.cell? ⟨b, 5, none⟩ = some (.string s.lo.s) ∧
    w.cell? ⟨b, 6, none⟩ = some (.bool s.hasHi) ∧ w.cell? ⟨b, 7, none⟩ = some (.bool s.openHi) ∧ w.cell? ⟨b, 8, none⟩ = some (.bool s.hi.t) ∧ w.cell? ⟨b, 9, none⟩ = some (.int .i64 s.hi.n) ∧ w.cell? ⟨b, 10, none⟩ = some (.string s.hi.s) := by
  refine ⟨?_, ?_, ?_, ?_, ?_, ?_, ?_, ?_, ?_, ?_, ?_⟩ <;> simp [World.cell?, h, Spn.cells]
theorem spanLo_eq (s : Spn) (x : Val) : spanLo s x = (s.hasLo && (decide (valCmp x s.lo < 0) || decide (valCmp x s.lo = 0) && s.openLo)) := rfl
theorem spanHi_eq (s : Spn) (x : Val) : spanHi s x = (!s.hasHi || decide (valCmp x s.hi < 0) || decide (valCmp x s.hi = 0) && !s.openHi) := rfl
theorem cmp_three (a b : Val) : valCmp a b = -1 ∨ valCmp a b = 0 ∨ valCmp a b = 1 := by
  unfold valCmp cmpS cmpI
  repeat' split
  all_goals simp


set_option maxHeartbeats 8000000 in
theorem within_ok (s : Spn) (x : Val) (w : World) : Calls Try.prog 79 #[s.v, x.v] w fun e w' => e = .returned (.bool (spanIn s x)) ∧ Kept (fun _ => False) w w' := by
  have hk0 : Kept (fun _ => False) w ((w.alloc (.cells s.cells tS)).alloc (.cells #[.bool x.t, .int .i64 x.n, .string x.s] 23)) := ((Kept.refl _ _).alloc _).alloc _
  have hb1 : ((w.alloc (.cells s.cells tS)).alloc (.cells #[.bool x.t, .int .i64 x.n, .string x.s] 23)).heap[w.heap.size]? = some (.cells s.cells tS (0, 0)) := (((Kept.refl (fun _ => False) (w.alloc (.cells s.cells tS))).alloc _).block _ (by simp) (fun h => h)).trans (heap_alloc_self w _)
  have hb2 : ((w.alloc (.cells s.cells tS)).alloc (.cells #[.bool x.t, .int .i64 x.n, .string x.s] 23)).heap[w.heap.size + 1]? = some (.cells #[.bool x.t, .int .i64 x.n, .string x.s] 23 (0, 0)) := by
    have := heap_alloc_self (w.alloc (.cells s.cells tS)) (.cells #[.bool x.t, .int .i64 x.n, .string x.s] 23)
    rw [World.size_alloc] at this
    exact this
  have HK0 := Lib.hid hk0
  have HB1 := Lib.hid hb1
  have HB2 := Lib.hid hb2
  clear hk0 hb1 hb2
  dsimp only [Spn.v, Val.v]
  go_enter Try.func79, Try.ntmps79
  go_upto_region 1 with (fail)
  obtain ⟨W, hW⟩ : ∃ W, W = (w.alloc (.cells s.cells tS)).alloc (.cells #[.bool x.t, .int .i64 x.n, .string x.s] 23) := ⟨_, rfl⟩
  dsimp only [Spn.cells] at hW
  rw [← hW]
  dsimp only [Spn.cells] at HK0 HB1 HB2
  rw [← hW] at HK0 HB1 HB2
  generalize w.heap.size + 1 = bx at HB2 ⊢
  generalize w.heap.size = bs at HB1 ⊢
  clear hW
  obtain ⟨s0, s1, s2, s3, s4, s5, s6, s7, s8, s9, s10⟩ := Spn.at (s := s) HB1.out
  obtain ⟨x0, x1, x2, xf⟩ := cells3 HB2.out
  cases hn : s.no
  · rw [hn] at s0
    have HN := Lib.hid hn
    clear hn
    go_upto_region 4 with ((go_at_call 64; refine (compare_ok x s.lo _).mono ?_; rintro e1 w1 ⟨rfl, hk1⟩; have HK1 := Lib.hid (HK0.out.trans hk1 (fun _ h => h.elim)); have HB11 := Lib.hid ((hk1.block bs (lt_of_heap HB1.out) (fun h => h)).trans HB1.out); have HB21 := Lib.hid ((hk1.block bx (lt_of_heap HB2.out) (fun h => h)).trans HB2.out); clear hk1 s0 s1 s2 s3 s4 s5 s6 s7 s8 s9 s10 x0 x1 x2 xf))
    obtain ⟨s0, s1, s2, s3, s4, s5, s6, s7, s8, s9, s10⟩ := Spn.at (s := s) HB11.out
    obtain ⟨x0, x1, x2, xf⟩ := cells3 HB21.out
    have hc3 := cmp_three x s.lo
    have HLO := Lib.hid (spanLo_eq s x)
    generalize valCmp x s.lo = c at HLO hc3 ⊢
    cases hl : s.hasLo
    · rw [hl] at s1
      have HLF : spanLo s x = false := by rw [HLO.out]; simp [*]
      have HLF := Lib.hid HLF
      go_upto_region 7 with ((go_at_call 64; refine (compare_ok x s.hi _).mono ?_; rintro e2 w2 ⟨rfl, hk2⟩; have HK2 := Lib.hid (HK1.out.trans hk2 (fun _ h => h.elim)); have HB12 := Lib.hid ((hk2.block bs (lt_of_heap HB11.out) (fun h => h)).trans HB11.out); clear hk2 s0 s1 s2 s3 s4 s5 s6 s7 s8 s9 s10 x0 x1 x2 xf))
      obtain ⟨s0, s1, s2, s3, s4, s5, s6, s7, s8, s9, s10⟩ := Spn.at (s := s) HB12.out
      have hd3 := cmp_three x s.hi
      have HHI := Lib.hid (spanHi_eq s x)
      generalize valCmp x s.hi = d at HHI hd3 ⊢
      cases hh : s.hasHi
      · rw [hh] at s6
        go_wp2_with (fail)
        go_ret
        exact ⟨by unfold spanIn; rw [HN.out, HLF.out, HHI.out]; simp [*], HK2.out⟩
      · rw [hh] at s6
        rcases hd3 with rfl | rfl | rfl
        · skip
          go_wp2_with (fail)
          go_ret
          exact ⟨by unfold spanIn; rw [HN.out, HLF.out, HHI.out]; simp [*], HK2.out⟩
        · cases ho : s.openHi
          · rw [ho] at s7
            go_wp2_with (fail)
            go_ret
            exact ⟨by unfold spanIn; rw [HN.out, HLF.out, HHI.out]; simp [*], HK2.out⟩
          · rw [ho] at s7
            go_wp2_with (fail)
            go_ret
            exact ⟨by unfold spanIn; rw [HN.out, HLF.out, HHI.out]; simp [*], HK2.out⟩
        · skip
          go_wp2_with (fail)
          go_ret
          exact ⟨by unfold spanIn; rw [HN.out, HLF.out, HHI.out]; simp [*], HK2.out⟩
    · rw [hl] at s1
      rcases hc3 with rfl | rfl | rfl
      · skip
        have HLF : spanLo s x = true := by rw [HLO.out]; simp [*]
        have HLF := Lib.hid HLF
        go_wp2_with (fail)
        go_ret
        exact ⟨by unfold spanIn; rw [HN.out, HLF.out]; simp, HK1.out⟩
      · cases ho : s.openLo
        · rw [ho] at s2
          have HLF : spanLo s x = false := by rw [HLO.out]; simp [*]
          have HLF := Lib.hid HLF
          go_upto_region 7 with ((go_at_call 64; refine (compare_ok x s.hi _).mono ?_; rintro e2 w2 ⟨rfl, hk2⟩; have HK2 := Lib.hid (HK1.out.trans hk2 (fun _ h => h.elim)); have HB12 := Lib.hid ((hk2.block bs (lt_of_heap HB11.out) (fun h => h)).trans HB11.out); clear hk2 s0 s1 s2 s3 s4 s5 s6 s7 s8 s9 s10 x0 x1 x2 xf))
          obtain ⟨s0, s1, s2, s3, s4, s5, s6, s7, s8, s9, s10⟩ := Spn.at (s := s) HB12.out
          have hd3 := cmp_three x s.hi
          have HHI := Lib.hid (spanHi_eq s x)
          generalize valCmp x s.hi = d at HHI hd3 ⊢
          cases hh : s.hasHi
          · rw [hh] at s6
            go_wp2_with (fail)
            go_ret
            exact ⟨by unfold spanIn; rw [HN.out, HLF.out, HHI.out]; simp [*], HK2.out⟩
          · rw [hh] at s6
            rcases hd3 with rfl | rfl | rfl
            · skip
              go_wp2_with (fail)
              go_ret
              exact ⟨by unfold spanIn; rw [HN.out, HLF.out, HHI.out]; simp [*], HK2.out⟩
            · cases ho : s.openHi
              · rw [ho] at s7
                go_wp2_with (fail)
                go_ret
                exact ⟨by unfold spanIn; rw [HN.out, HLF.out, HHI.out]; simp [*], HK2.out⟩
              · rw [ho] at s7
                go_wp2_with (fail)
                go_ret
                exact ⟨by unfold spanIn; rw [HN.out, HLF.out, HHI.out]; simp [*], HK2.out⟩
            · skip
              go_wp2_with (fail)
              go_ret
              exact ⟨by unfold spanIn; rw [HN.out, HLF.out, HHI.out]; simp [*], HK2.out⟩
        · rw [ho] at s2
          have HLF : spanLo s x = true := by rw [HLO.out]; simp [*]
          have HLF := Lib.hid HLF
          go_wp2_with (fail)
          go_ret
          exact ⟨by unfold spanIn; rw [HN.out, HLF.out]; simp, HK1.out⟩
      · skip
        have HLF : spanLo s x = false := by rw [HLO.out]; simp [*]
        have HLF := Lib.hid HLF
        go_upto_region 7 with ((go_at_call 64; refine (compare_ok x s.hi _).mono ?_; rintro e2 w2 ⟨rfl, hk2⟩; have HK2 := Lib.hid (HK1.out.trans hk2 (fun _ h => h.elim)); have HB12 := Lib.hid ((hk2.block bs (lt_of_heap HB11.out) (fun h => h)).trans HB11.out); clear hk2 s0 s1 s2 s3 s4 s5 s6 s7 s8 s9 s10 x0 x1 x2 xf))
        obtain ⟨s0, s1, s2, s3, s4, s5, s6, s7, s8, s9, s10⟩ := Spn.at (s := s) HB12.out
        have hd3 := cmp_three x s.hi
        have HHI := Lib.hid (spanHi_eq s x)
        generalize valCmp x s.hi = d at HHI hd3 ⊢
        cases hh : s.hasHi
        · rw [hh] at s6
          go_wp2_with (fail)
          go_ret
          exact ⟨by unfold spanIn; rw [HN.out, HLF.out, HHI.out]; simp [*], HK2.out⟩
        · rw [hh] at s6
          rcases hd3 with rfl | rfl | rfl
          · skip
            go_wp2_with (fail)
            go_ret
            exact ⟨by unfold spanIn; rw [HN.out, HLF.out, HHI.out]; simp [*], HK2.out⟩
          · cases ho : s.openHi
            · rw [ho] at s7
              go_wp2_with (fail)
              go_ret
              exact ⟨by unfold spanIn; rw [HN.out, HLF.out, HHI.out]; simp [*], HK2.out⟩
            · rw [ho] at s7
              go_wp2_with (fail)
              go_ret
              exact ⟨by unfold spanIn; rw [HN.out, HLF.out, HHI.out]; simp [*], HK2.out⟩
          · skip
            go_wp2_with (fail)
            go_ret
            exact ⟨by unfold spanIn; rw [HN.out, HLF.out, HHI.out]; simp [*], HK2.out⟩
  · rw [hn] at s0
    have HIN := Lib.hid (show spanIn s x = false by unfold spanIn; rw [hn]; rfl)
    go_wp2_with (fail)
    go_ret
    exact ⟨by rw [HIN.out]; rfl, HK0.out⟩
end Go.Proofs.Ytcbklkcpjldcjaa

/- Of no program: what an iterator reads beside a loop's body that owns something of its own. -/
namespace Go.Proofs.Ytcbklkcpjldcjaa
open Go.ChangeShapes Go.WideShapes Go.ChangeAt Go.RowKit
set_option linter.unusedSimpArgs false

/-- blocks that a loop's body owns: what is laid or turned elsewhere makes them no more -/
structure Owner (n₀ : Nat) (Ow : World → Nat → Prop) : Prop where
  stay : ∀ W W', n₀ ≤ W.heap.size → Kept (fun _ => False) W W' → ∀ k, Ow W' k → Ow W k
  put : ∀ W l (o : Obj), n₀ ≤ l → ∀ k, Ow (W.putObj l o) k → Ow W k
/-- a round's word -/
structure KpO (Ow : World → Nat → Prop) (W W' : World) : Prop where
  size : W.heap.size ≤ W'.heap.size
  same : ∀ k cs t fr, W.heap[k]? = some (.cells cs t fr) → ¬ Ow W k → W'.heap[k]? = some (.cells cs t fr)
  back : ∀ k, Ow W' k → Ow W k ∨ W.heap.size ≤ k
  fit : (∀ k, Ow W k → k < W.heap.size) → ∀ k, Ow W' k → k < W'.heap.size
/-- D may be read by the iterator -/
structure ItOk (n₀ : Nat) (Ow : World → Nat → Prop) (D : PH) (W : World) : Prop where
  le : PH.le D (heapOf W)
  mine : ∀ k o, D k = some o → (∃ cs t fr, o = .cells cs t fr) ∧ ¬ Ow W k
  fit : ∀ k, Ow W k → k < W.heap.size
  ge : n₀ ≤ W.heap.size

section
variable {n₀ : Nat} {Ow : World → Nat → Prop} {D : PH} {W W' X : World}
theorem heapOf_lt {k : Nat} {o : Obj} (h : heapOf W k = some o) : k < W.heap.size := lt_of_heap h
theorem KpO.trans (a : KpO Ow W W') (b : KpO Ow W' X) : KpO Ow W X where
  size := Nat.le_trans a.size b.size
  same := fun k cs t fr h hn => b.same k cs t fr (a.same k cs t fr h hn) (fun ho => by
    rcases a.back k ho with h1 | h1
    · exact hn h1
    · have := lt_of_heap h; omega)
  back := fun k ho => by
    rcases b.back k ho with h1 | h1
    · exact a.back k h1
    · exact .inr (Nat.le_trans a.size h1)
  fit := fun h => b.fit (a.fit h)
theorem KpO.put (hO : Owner n₀ Ow) {l : Nat} {o o' : Obj} (hl : n₀ ≤ l) (h : W.heap[l]? = some o) (hc : o.isCells = false) : KpO Ow W (W.putObj l o') where
  size := by simp
  same := fun k cs t fr hk _ => by
    rw [World.putObj_heap_other (fun e => by subst e; rw [h] at hk; cases hk; cases hc)]
    exact hk
  back := fun k ho => .inl (hO.put W l o' hl k ho)
  fit := fun hf k ho => by have := hf k (hO.put W l o' hl k ho); simpa using this
theorem ItOk.kp (h : ItOk n₀ Ow D W) (k : KpO Ow W W') : ItOk n₀ Ow D W' where
  le := fun b o hb => by
    obtain ⟨⟨cs, t, fr, rfl⟩, hn⟩ := h.mine b o hb
    exact k.same b cs t fr (h.le b _ hb) hn
  mine := fun b o hb => ⟨(h.mine b o hb).1, fun ho => by
    rcases k.back b ho with h1 | h1
    · exact (h.mine b o hb).2 h1
    · have := heapOf_lt (h.le b o hb); omega⟩
  fit := k.fit h.fit
  ge := Nat.le_trans h.ge k.size
theorem ItOk.kept (hO : Owner n₀ Ow) (h : ItOk n₀ Ow D W) (k : Kept (fun _ => False) W W') : ItOk n₀ Ow D W' where
  le := fun b o hb => (k.block b (heapOf_lt (h.le b o hb)) (fun h => h)).trans (h.le b o hb)
  mine := fun b o hb => ⟨(h.mine b o hb).1, fun ho => (h.mine b o hb).2 (hO.stay W W' h.ge k b ho)⟩
  fit := fun b ho => Nat.lt_of_lt_of_le (h.fit b (hO.stay W W' h.ge k b ho)) k.size
  ge := Nat.le_trans h.ge k.size
def PH.with (D : PH) (b : Nat) (o : Obj) : PH := fun x => if x = b then some o else D x
theorem PH.with_self (D : PH) (b : Nat) (o : Obj) : D.with b o b = some o := by simp [PH.with]
/-- a block that was laid since -/
theorem ItOk.new (hO : Owner n₀ Ow) (h : ItOk n₀ Ow D W) (k : Kept (fun _ => False) W W') {b : Nat} {cs : Array Value} {t : TypeId} {fr : Nat × Nat} (hb : W'.heap[b]? = some (.cells cs t fr)) (hge : W.heap.size ≤ b) : ItOk n₀ Ow (D.with b (.cells cs t fr)) W' where
  le := fun x o hx => by
    unfold PH.with at hx
    split at hx
    · rename_i e; subst e; cases hx; exact hb
    · exact (h.kept hO k).le x o hx
  mine := fun x o hx => by
    unfold PH.with at hx
    split at hx
    · rename_i e
      subst e
      cases hx
      exact ⟨⟨_, _, _, rfl⟩, fun ho => by have := h.fit x (hO.stay W W' h.ge k x ho); omega⟩
    · exact (h.kept hO k).mine x o hx
  fit := (h.kept hO k).fit
  ge := (h.kept hO k).ge
theorem ItOk.with_le (h : ItOk n₀ Ow D W) {b : Nat} (o : Obj) (hb : W.heap.size ≤ b) : PH.le D (D.with b o) := fun x p hx => by
  unfold PH.with
  rw [if_neg (fun e => by subst e; have := heapOf_lt (h.le x p hx); omega)]
  exact hx
theorem ItOk.less {D' : PH} (h : ItOk n₀ Ow D' W) (le : PH.le D D') : ItOk n₀ Ow D W where
  le := le.trans h.le
  mine := fun b o hb => h.mine b o (le b o hb)
  fit := h.fit
  ge := h.ge
theorem Kept.grown (k : Kept (fun _ => False) W W') : W.grownBy W' none := ⟨k.os, k.tape, k.output, k.size, fun b hb _ => k.block b hb (fun h => h)⟩
end
end Go.Proofs.Ytcbklkcpjldcjaa

/- Of no program: a box that holds a row of one's own, beside an iterator; what a tree reads lies in cells alone. -/
namespace Go.Proofs.Ytcbklkcpjldcjaa
open Go.ChangeShapes Go.WideShapes Go.ChangeAt Go.RowKit
set_option linter.unusedSimpArgs false

/-- what lies in cells -/
def cellsOf (h : PH) : PH := fun b => match h b with | some (.cells cs t fr) => some (.cells cs t fr) | _ => none
theorem cellsOf_le (h : PH) : PH.le (cellsOf h) h := fun b o e => by
  unfold cellsOf at e
  split at e
  · rename_i cs t fr hb; rw [hb]; exact e
  · cases e
theorem cellsOf_eq {h : PH} {b : Nat} {cs : Array Value} {t : TypeId} {fr : Nat × Nat} (e : h b = some (.cells cs t fr)) : cellsOf h b = some (.cells cs t fr) := by unfold cellsOf; rw [e]
theorem cellsOf_cells {h : PH} {b : Nat} {o : Obj} (e : cellsOf h b = some o) : ∃ cs t fr, o = .cells cs t fr := by
  unfold cellsOf at e
  split at e
  · cases e; exact ⟨_, _, _, rfl⟩
  · cases e
theorem cellsOf_mono {h k : PH} (le : PH.le h k) : PH.le (cellsOf h) (cellsOf k) := fun b o e => by
  obtain ⟨cs, t, fr, rfl⟩ := cellsOf_cells e
  exact cellsOf_eq (le b _ (cellsOf_le h b _ e))
theorem cellsOf_none {h : PH} {b : Nat} (e : h b = none) : cellsOf h b = none := by unfold cellsOf; rw [e]
/-- a thing that lies in cells -/
def InCells (A : HP) : Prop := ∀ h, A h → A (cellsOf h)
theorem inCells_blk (b : Nat) (cs : Array Value) (t : TypeId) : InCells (blk b cs t) := fun _ hA => cellsOf_eq hA
theorem inCells_own (e : TypeId) (size : Nat) (v : Value) (n : Nat) (xs : List Value) : InCells (ownS e size v n xs) := fun _ ⟨h1, h2, h3⟩ => by
  refine ⟨h1, h2, ?_⟩
  rcases h3 with h3 | ⟨g, cap, cur, h3, h4, h5⟩
  · exact .inl h3
  · exact .inr ⟨g, cap, cur, h3, cellsOf_eq h4, h5⟩
theorem Holds.inCells : ∀ {l : List HP}, (∀ A ∈ l, InCells A) → ∀ {h : PH}, Holds l h → Holds l (cellsOf h)
  | [], _, _, _ => trivial
  | A :: _, hl, _, ⟨h1, h2, a, b, c, d, e⟩ =>
    ⟨cellsOf h1, cellsOf h2, fun x => (a x).imp cellsOf_none cellsOf_none, cellsOf_mono b, cellsOf_mono c, hl A (List.mem_cons_self ..) _ d, Holds.inCells (fun B hB => hl B (List.mem_cons_of_mem _ hB)) e⟩
theorem inCells_group {l : List HP} (hl : ∀ A ∈ l, InCells A) : InCells (group l) := fun _ hA => Holds.inCells hl hA

section
variable {B w w' W W' : World} {D : PH} {l : List HP}
/-- things that are held, in a heap that has these cells -/
theorem Sat.inPool {l' : List HP} (hs : Sat B D w (l ++ l')) (hl : ∀ A ∈ l, InCells A) {E : PH} (hE : PH.le (cellsOf (heapOf w)) E) (hW : PH.le E (heapOf W)) : Sat W (fun _ => none) W l := by
  obtain ⟨h1, h2, a, b, c, d, e⟩ := (Holds.perm (List.perm_append_comm (l₁ := (fun h => PH.le D h) :: l) (l₂ := l')) hs.holds).part
  obtain ⟨k1, k2, a', b', c', d', e'⟩ := e
  have := Holds.inCells hl e'
  exact ⟨rfl, rfl, rfl, Nat.le_refl _, ⟨fun _ => none, heapOf W, fun _ => .inl rfl, PH.le.none _, PH.le.refl _, PH.le.refl _, this.mono (((cellsOf_mono (c'.trans c)).trans hE).trans hW)⟩⟩

/-! ### a box that holds a row -/
def OwB (bo : Nat) (W : World) (k : Nat) : Prop := k = bo ∨ ∃ v t, W.heap[bo]? = some (.cells #[v] t (0, 0)) ∧ v.ownBlock = some k
theorem ownerB {n₀ bo : Nat} (h : bo < n₀) : Owner n₀ (OwB bo) where
  stay := fun W W' hn k x hx => hx.imp (fun h => h) (fun ⟨v, t, h1, h2⟩ => ⟨v, t, by rw [← k.block bo (by omega) (fun h => h)]; exact h1, h2⟩)
  put := fun W l o hl x hx => hx.imp (fun h => h) (fun ⟨v, t, h1, h2⟩ => ⟨v, t, by rw [← World.putObj_heap_other (o := o) (show bo ≠ l by omega)]; exact h1, h2⟩)
structure BoxRow (W : World) (bo : Nat) (tb e : TypeId) (size : Nat) (v : Value) (n : Nat) (xs : List Value) : Prop where
  box : W.heap[bo]? = some (.cells #[v] tb (0, 0))
  own : Proofs.Ytcbklkcpjldcjaa.Own W e size v n xs
  apart : v.ownBlock ≠ some bo
variable {bo : Nat} {tb e : TypeId} {size n n' : Nat} {v v' : Value} {xs xs' : List Value}
theorem BoxRow.ow (h : BoxRow W bo tb e size v n xs) {k : Nat} (hk : OwB bo W k) : k = bo ∨ v.ownBlock = some k := by
  rcases hk with hk | ⟨v1, t, h1, h2⟩
  · exact .inl hk
  · rw [h.box] at h1; cases h1; exact .inr h2
theorem BoxRow.frame (h : BoxRow W bo tb e size v n xs) (hk : ∀ k, OwB bo W k → k < W.heap.size → W'.heap[k]? = W.heap[k]?) : BoxRow W' bo tb e size v n xs :=
  ⟨by rw [hk bo (.inl rfl) (lt_of_heap h.box)]; exact h.box, h.own.frame (fun g hg hlt => hk g (.inr ⟨v, tb, h.box, hg⟩) hlt), h.apart⟩
open Classical in
theorem BoxRow.sat (h : BoxRow W bo tb e size v n xs) : ∃ D, (∀ k o, D k = some o ↔ (¬ OwB bo W k ∧ heapOf W k = some o)) ∧ Sat W D W [blk bo #[v] tb, ownS e size v n xs] := by
  refine ⟨fun k => if OwB bo W k then none else heapOf W k, fun k o => by dsimp only; split <;> simp_all, rfl, rfl, rfl, Nat.le_refl _, fun k => if OwB bo W k then none else heapOf W k, fun k => if OwB bo W k then heapOf W k else none, fun k => ?_, fun k o hk => ?_, fun k o hk => ?_, PH.le.refl _, one bo (.cells #[v] tb), under W v, fun k => ?_, fun k o hk => ?_, fun k o hk => ?_, one_self _ _, under W v, fun _ => none, fun _ => .inr rfl, PH.le.refl _, PH.le.none _, under_own h.own, trivial⟩
  · by_cases hk : OwB bo W k
    · exact .inl (by dsimp only; rw [if_pos hk])
    · exact .inr (by dsimp only; rw [if_neg hk])
  · dsimp only at hk; split at hk
    · cases hk
    · exact hk
  · dsimp only at hk; split at hk
    · exact hk
    · cases hk
  · by_cases hk : k = bo
    · subst hk
      refine .inr ?_
      cases hu : under W v k with
      | none => rfl
      | some o => exact absurd (under_some hu) h.apart
    · exact .inl (by unfold one; rw [if_neg hk])
  · have := one_some hk
    subst this
    rw [one_self] at hk; cases hk
    dsimp only
    rw [if_pos (.inl rfl)]
    exact h.box
  · have h1 := under_some hk
    dsimp only
    rw [if_pos (.inr ⟨v, tb, h.box, h1⟩)]
    exact under_le _ _ _ _ hk
/-- behind a round: the box holds the row as it is now; all else lies as it lay -/
theorem BoxRow.back (h : BoxRow W bo tb e size v n xs) {D : PH} (hD : ∀ k o, D k = some o ↔ (¬ OwB bo W k ∧ heapOf W k = some o)) (hs : Sat W D W' (blk bo #[v'] tb :: ownS e size v' n' xs' :: l)) :
    BoxRow W' bo tb e size v' n' xs' ∧ KpO (OwB bo) W W' ∧ KeepsOthers W W' ∧ Kept (OwB bo W) W W' ∧ (∀ k, OwB bo W' k → OwB bo W k ∨ W.heap.size ≤ k) := by
  have hbox : W'.heap[bo]? = some (.cells #[v'] tb (0, 0)) := hs.blk 0 rfl
  have hown := hs.own 1 rfl
  have hle : PH.le D (heapOf W') := hs.pool
  have hap : v'.ownBlock ≠ some bo := by
    intro hb
    obtain ⟨h1, h2, a, b, c, d, e0⟩ := hs.holds.swap
    obtain ⟨m1, m2, m3, m4, m5, m6, m7⟩ := Holds.swap e0
    rcases a bo with g | g
    · exact absurd (d.symm.trans g) (by simp)
    · rcases m6.2.2 with ⟨q, _⟩ | ⟨g', cap, cur, q1, q2, _⟩
      · rw [q] at hb; cases hb
      · rw [q1] at hb
        have : g' = bo := by simpa [Value.ownBlock] using hb
        subst this
        have := m4 _ _ q2
        rw [g] at this; cases this
  have hBR : BoxRow W' bo tb e size v' n' xs' := ⟨hbox, hown, hap⟩
  have hback : ∀ k, OwB bo W' k → OwB bo W k ∨ W.heap.size ≤ k := by
    intro k hk
    rcases hBR.ow hk with hk | hk
    · exact .inl (.inl hk)
    · by_cases hlt : k < W.heap.size
      · refine .inl (Classical.byContradiction fun hn => ?_)
        have hDk : D k = some W.heap[k] := (hD _ _).2 ⟨hn, Array.getElem?_eq_getElem hlt⟩
        obtain ⟨h1, h2, a, b, c, d, e0⟩ := hs.holds
        obtain ⟨m1, m2, m3, m4, m5, m6, m7⟩ := Holds.swap e0
        rcases m6.2.2 with ⟨q, _⟩ | ⟨g', cap, cur, q1, q2, _⟩
        · rw [q] at hk; cases hk
        · rw [q1] at hk
          have : g' = k := by simpa [Value.ownBlock] using hk
          subst this
          have h3 := d _ _ hDk
          have h4 := m4 _ _ q2
          rcases a g' with g | g
          · rw [g] at h3; cases h3
          · rw [g] at h4; cases h4
      · exact .inr (by omega)
  refine ⟨hBR, ⟨hs.size, fun k cs t fr hk hn => hle _ _ ((hD _ _).2 ⟨hn, hk⟩), hback, fun _ k hk => ?_⟩, ⟨hs.size, fun k o hk hc => ?_⟩, ⟨hs.os, hs.tape, hs.output, hs.size, fun k hk hn => ?_⟩, hback⟩
  · rcases hBR.ow hk with hk | hk
    · rw [hk]; exact lt_of_heap hbox
    · exact hown.lt k hk
  · refine hle _ _ ((hD _ _).2 ⟨fun hn => ?_, hk⟩)
    rcases h.ow hn with h1 | h1
    · subst h1; rw [h.box] at hk; cases hk; cases hc
    · rcases h.own.2.2 with ⟨q, _⟩ | ⟨g', cap, cur, q1, q2, _⟩
      · rw [q] at h1; cases h1
      · rw [q1] at h1
        have : g' = k := by simpa [Value.ownBlock] using h1
        subst this
        rw [q2] at hk; cases hk; cases hc
  · rw [Array.getElem?_eq_getElem hk]
    exact hle _ _ ((hD _ _).2 ⟨hn, Array.getElem?_eq_getElem hk⟩)
end

/-! ### what the loop's own record keeps -/
theorem room_of_none {F : Fence} (hd : F.depth = none) (k : Nat) : F.room k := fun d h => by rw [hd] at h; cases h
theorem RoundIn.anyDepth {F : Fence} (hd : F.depth = none) {m m' : Nat} {P : Program} {l : Nat} {f : FuncId} {tmps : Array Value} {assign body : Code} {w : World} {R : Ending → World → Prop}
    (h : RoundIn F m P l f tmps assign body w R) : RoundIn F m' P l f tmps assign body w R := ⟨h.1, fun c cs _ => h.2 c cs (Proofs.Ytcbklkcpjldcjaa.room_of_none hd _)⟩
theorem YieldAt.anyDepth {F : Fence} (hd : F.depth = none) {m : Nat} (m' : Nat) {P : Program} {l : Nat} {args : Array Value} {W : World} {R : Ending → World → Prop} (h : YieldAt F m P l args W R) : YieldAt F m' P l args W R := by
  obtain ⟨fn, tmps, assign, body, hy, hR⟩ := h
  exact ⟨fn, tmps, assign, body, hy, Proofs.Ytcbklkcpjldcjaa.RoundIn.anyDepth hd hR⟩
end Go.Proofs.Ytcbklkcpjldcjaa

/- Of no program: the invariant of a loop over an iterator whose body appends to a row in a box. -/
namespace Go.Proofs.Ytcbklkcpjldcjaa
open Go.ChangeShapes Go.WideShapes Go.ChangeAt Go.RowKit
set_option linter.unusedSimpArgs false

section
variable {w W W' : World} {bo n₀ B : Nat} {tb e : TypeId} {size n : Nat} {v v' : Value} {xs : List Value} {α : Type} {f : α → List Value} {pre : List α} {l : List HP}
theorem KpO.of_kept {Ow : World → Nat → Prop} (hO : Owner n₀ Ow) (hn : n₀ ≤ W.heap.size) (k : Kept (fun _ => False) W W') : KpO Ow W W' where
  size := k.size
  same := fun b _ _ _ h _ => (k.block b (lt_of_heap h) (fun h => h)).trans h
  back := fun b hb => .inl (hO.stay W W' hn k b hb)
  fit := fun hf b hb => Nat.lt_of_lt_of_le (hf b (hO.stay W W' hn k b hb)) k.size
theorem keepsFrom_kept (k : Kept (fun _ => False) W W') (B : Nat) : KeepsFrom B W W' := ⟨k.size, fun b _ _ h _ => (k.block b (lt_of_heap h) (fun h => h)).trans h⟩

theorem OwB.lt (h : BoxRow W bo tb e size v n xs) {k : Nat} (hk : OwB bo W k) : k < W.heap.size := by
  rcases h.ow hk with hk | hk
  · rw [hk]; exact lt_of_heap h.box
  · exact h.own.lt k hk
theorem OwB.cells (h : BoxRow W bo tb e size v n xs) {k : Nat} (hk : OwB bo W k) : ∃ cs t fr, W.heap[k]? = some (.cells cs t fr) := by
  rcases h.ow hk with hk | hk
  · rw [hk]; exact ⟨_, _, _, h.box⟩
  · rcases h.own.2.2 with ⟨q, _⟩ | ⟨g', cap, cur, q1, q2, _⟩
    · rw [q] at hk; cases hk
    · rw [q1] at hk
      have : g' = k := by simpa [Value.ownBlock] using hk
      subst this
      exact ⟨_, _, _, q2⟩
theorem OwB.same (hb : W'.heap[bo]? = W.heap[bo]?) {k : Nat} (hk : OwB bo W' k) : OwB bo W k := hk.imp (fun h => h) (fun ⟨v, t, h1, h2⟩ => ⟨v, t, by rw [← hb]; exact h1, h2⟩)

open Classical in
/-- what an iterator may read beside the row -/
theorem BoxRow.iter (h : BoxRow W bo tb e size v n xs) : ∃ E : PH, (∀ k cs t fr, W.heap[k]? = some (.cells cs t fr) → ¬ OwB bo W k → E k = some (.cells cs t fr)) ∧ ∀ W', Below W.heap.size W W' → ItOk W.heap.size (OwB bo) E W' := by
  refine ⟨fun k => if OwB bo W k then none else cellsOf (heapOf W) k, fun k cs t fr hk hn => ?_, fun W' hb => ?_⟩
  · dsimp only; rw [if_neg hn]; exact cellsOf_eq hk
  · have hbo : W'.heap[bo]? = W.heap[bo]? := hb.block bo (lt_of_heap h.box)
    refine ⟨fun k o hk => ?_, fun k o hk => ?_, fun k hk => ?_, hb.size⟩
    · split at hk
      · cases hk
      · have := cellsOf_le _ _ _ hk
        exact (hb.block k (lt_of_heap this)).trans this
    · split at hk
      · cases hk
      · rename_i hn
        exact ⟨cellsOf_cells hk, fun ho => hn (OwB.same hbo ho)⟩
    · exact Nat.lt_of_lt_of_le (OwB.lt h (OwB.same hbo hk)) hb.size

/-- the row in the box has what came so far; nothing that lay in w has turned -/
structure Inv (w : World) (bo : Nat) (tb e : TypeId) (size : Nat) (f : α → List Value) (pre : List α) (W : World) : Prop where
  kept : Kept (fun _ => False) w W
  new : ∀ k, OwB bo W k → w.heap.size ≤ k
  row : ∃ v, BoxRow W bo tb e size v pre.length (pre.flatMap f)
theorem Inv.frame (h : Inv w bo tb e size f pre W) (hk : Kept (fun _ => False) W W') : Inv w bo tb e size f pre W' := by
  obtain ⟨h1, h2, v, h3⟩ := h
  have hb : W'.heap[bo]? = W.heap[bo]? := hk.block bo (lt_of_heap h3.box) (fun h => h)
  exact ⟨h1.trans hk (fun _ h => h.elim), fun k ho => h2 k (OwB.same hb ho), v, h3.frame (fun k _ hlt => hk.block k hlt (fun h => h))⟩
theorem Inv.ownFrom (hw : w.heap.size ≤ B) (hbo : bo < B) : OwnFrom B (Inv w bo tb e size f) := by
  intro pre W W' row h hg hr
  obtain ⟨h1, h2, v, h3⟩ := h
  have hb : W'.heap[bo]? = W.heap[bo]? := hg.block bo (lt_of_heap h3.box) (fun he => by have := (hr bo he.symm).1; omega)
  refine ⟨h1.trans ⟨hg.os, hg.tape, hg.output, hg.size, fun k hk hn => hg.block k hk hn⟩ (fun k hk => .inr (by have := (hr k hk.symm).1; omega)), fun k ho => h2 k (OwB.same hb ho), v, h3.frame (fun k ho hlt => hg.block k hlt (fun he => ?_))⟩
  obtain ⟨_, o, ho', hc⟩ := hr k he.symm
  obtain ⟨cs, t, fr, hcs⟩ := OwB.cells h3 ho
  rw [hcs] at ho'
  cases ho'
  cases hc
/-- behind a round -/
theorem Inv.next (h : Inv w bo tb e size f pre W) (hb : BoxRow W bo tb e size v n xs) {D : PH} (hD : ∀ k o, D k = some o ↔ (¬ OwB bo W k ∧ heapOf W k = some o)) {x : α}
    (hs : Sat W D W' (blk bo #[v'] tb :: ownS e size v' (pre ++ [x]).length ((pre ++ [x]).flatMap f) :: l)) : KeepsFrom B W W' ∧ KpO (OwB bo) W W' ∧ Inv w bo tb e size f (pre ++ [x]) W' := by
  obtain ⟨a, b, c, d, g⟩ := hb.back hD hs
  refine ⟨c.from B, b, ⟨h.kept.trans d (fun k hk => .inr (h.new k hk)), fun k hk => ?_, v', a⟩⟩
  rcases g k hk with hk | hk
  · exact h.new k hk
  · exact Nat.le_trans h.kept.size hk
/-- at the beginning -/
theorem Inv.start (hk : Kept (fun _ => False) w W) (hb : W.heap[bo]? = some (.cells #[.slice none 0 0] tb (0, 0))) (hbo : w.heap.size ≤ bo) : Inv w bo tb e size f [] W := by
  refine ⟨hk, fun k ho => ?_, _, hb, Own.nil _ _ _, fun h => by cases h⟩
  rcases ho with rfl | ⟨v, t, h1, h2⟩
  · exact hbo
  · rw [hb] at h1; cases h1; cases h2
/-- at the end -/
theorem Inv.done {B0 : World} {D0 : PH} (h : Inv w bo tb e size f pre W) (hs : Sat B0 D0 w l) : ∃ v, W.heap[bo]? = some (.cells #[v] tb (0, 0)) ∧ Sat B0 D0 W (ownS e size v pre.length (pre.flatMap f) :: l) := by
  obtain ⟨h1, h2, v, h3⟩ := h
  exact ⟨v, h3.box, hs.own_new h1 h3.own (fun g hg => h2 g (.inr ⟨v, tb, h3.box, hg⟩))⟩

/-- an append inside a fence -/
theorem wpListIn_append_Sat {F : Fence} {n : Nat} {P : Program} {B : World} {D : PH} {l : List HP} (w : World) {ops : Array Oper} {rest : List Oper} {o : Oper} {a : Act} {Q : Exit → Act → World → Prop} (hgd : o.guard = none) (s x : Operand) (t : TypeId)
    (ho : o.op = .call { callee := .builtin .append, args := #[s, x], argTypes := #[t, t] })
    (e : TypeId) (i : TypeInfo) (z : Value) (size bytes : Nat) (ht : P.underlying t = some (.slice e)) (hi : P.info? e = some i) (hz : i.zero = some z)
    (hsize : i.size = size) (hby : i.bytes = bytes) (hzs : z.cells.size = size)
    (v : Value) (k : Nat) (xs : List Value) (hv : a.eval s = v) (hs : Sat B D w (ownS e size v k xs :: l)) (xv : Value) (m : Nat) (news : List Value) (hx : a.eval x = xv) (hrd : Rd w size xv m news) (h1 : ∀ u ∈ news, u.oneCell' = true)
    (h63 : k + m ≤ maxLen) (hbytes : (k + m) * bytes ≤ 140737488355328)
    (h : ∀ v' w', Sat B D w' (ownS e size v' (k + m) (xs ++ news) :: l) → v'.oneCell' = true → wpListIn F n P ops Q rest (a.put o.dst v') w') : wpListIn F n P ops Q (o :: rest) a w := by
  refine wpListIn_plain hgd fun K hK => ?_
  obtain ⟨v', w', hr, ho', hk, hb, _, _⟩ := run_append_Rd (P := P) w t o.type e i z size bytes ht hi hz hsize hby hzs v k xs (hs.own 0 rfl) xv m news hrd h1 h63 hbytes
  unfold Oper.wpIn
  refine ⟨by simp [Oper.about, ho, resolve, Target.leads, Sem.run_pure], ?_⟩
  rw [Oper.semAt_plain F _ _ (by rw [ho]; intro c hc'; cases hc')]
  simp [execOp, ho, resolve, invoke, builtin, hv, hx, hr, Result.andThen]
  refine hK _ _ (h v' w' (hs.own_step hk ho' (hb.imp (fun h => h) (fun hb g hg => ?_))) ?_)
  · rw [hb.1] at hg
    exact Nat.le_of_eq (Option.some.inj hg)
  · rcases ho'.2.2 with ⟨h2, _⟩ | ⟨g, cap, cur, h2, _⟩ <;> rw [h2] <;> rfl
/-- a box lies as it lay -/
theorem box_ownFrom {b : Nat} {cs : Array Value} {t : TypeId} {row : Option Nat} (h : W.heap[b]? = some (.cells cs t (0, 0))) (hg : W.grownBy W' row) (hr : ∀ r, row = some r → B ≤ r ∧ ∃ o : Obj, W.heap[r]? = some o ∧ o.isCells = false) : W'.heap[b]? = some (.cells cs t (0, 0)) :=
  (hg.block b (lt_of_heap h) (fun he => by obtain ⟨_, o, ho, hc⟩ := hr b he.symm; rw [h] at ho; cases ho; cases hc)).trans h
end
end Go.Proofs.Ytcbklkcpjldcjaa

/- Of no program: a loop over an iterator that hands over what it has made for the round. -/
namespace Go.Proofs.Ytcbklkcpjldcjaa
open Go.ChangeShapes Go.WideShapes Go.ChangeAt Go.RowKit
set_option linter.unusedSimpArgs false

/-- an iterator's word where the round is told what was made for it: X pre x W0 W: behind pre x may come, and was made between W0 and W -/
def SeqNew {α : Type} (F : Fence) (n : Nat) (P : Program) (g : Nat) (lb : Array Value) (encs : α → Array Value) (Kp : World → World → Prop) (X : List α → α → World → World → Prop) (S Sp : List α → Prop) (w : World) : Prop :=
  ∀ (l : Nat) (J Jx : List α → World → Prop) (W : World), Below w.heap.size w W → OwnFrom W.heap.size J → OwnFrom W.heap.size Jx →
    (∀ pre x W0 W1, J pre W0 → Kept (fun _ => False) W0 W1 → X pre x W0 W1 → YieldAt F (n - 1) P l (encs x) W1 fun e W' => KeepsFrom W.heap.size W1 W' ∧ ((e = .returned (.bool true) ∧ J (pre ++ [x]) W' ∧ Kp W1 W') ∨ (e = .returned (.bool false) ∧ Jx (pre ++ [x]) W'))) →
    J [] W → CallsIn F n P g (#[.func (.yield l) #[] #[]] ++ lb) W fun e W' => (∃ v, e = .returned v) ∧ ((∃ xs, S xs ∧ J xs W') ∨ (∃ pre, Sp pre ∧ Jx pre W'))

/-- the two blocks that such a loop lays: its record, and the one of its rounds' deferred calls -/
structure Book (k : Nat) (r : Loop) (W : World) : Prop where
  rec_ : W.heap[k + 1]? = some (.loop r)
  shut : W.heap[k]? = some (.deferred (some []))
section
variable {k : Nat} {r r' : Loop} {W W' : World} {row : Option Nat}
theorem Book.kept (h : Book k r W) (hk : Kept (fun _ => False) W W') : Book k r W' := ⟨(hk.block _ (lt_of_heap h.rec_) (fun h => h)).trans h.rec_, (hk.block _ (lt_of_heap h.shut) (fun h => h)).trans h.shut⟩
theorem Book.abides (h : Book k r W) (hg : W.grownBy W' row) (hr : ∀ b, row = some b → k + 2 ≤ b) : Book k r W' :=
  ⟨(hg.block _ (lt_of_heap h.rec_) (fun e => by have := hr _ e.symm; omega)).trans h.rec_, (hg.block _ (lt_of_heap h.shut) (fun e => by have := hr _ e.symm; omega)).trans h.shut⟩
theorem Book.from (h : Book k r W) (hk : KeepsFrom k W W') : Book k r W' := ⟨hk.same _ _ (by omega) h.rec_ rfl, hk.same _ _ (Nat.le_refl _) h.shut rfl⟩
theorem Book.turn (h : Book k r W) : Book k r' (W.putObj (k + 1) (.loop r')) := ⟨World.putObj_heap_same (lt_of_heap h.rec_), (World.putObj_heap_other (by omega)).trans h.shut⟩
end

theorem keepsFrom_le {B B' : Nat} {W W' : World} (h : KeepsFrom B W W') (hb : B ≤ B') : KeepsFrom B' W W' := ⟨h.size, fun k o hk => h.same k o (Nat.le_trans hb hk)⟩
theorem keepsFrom_put {B k : Nat} (W : World) (hk : k < B) (o : Obj) : KeepsFrom B W (W.putObj k o) := ⟨by simp, fun b _ hb h _ => (World.putObj_heap_other (by omega)).trans h⟩

theorem wpIn_rangeFunc_new {F : Fence} {n : Nat} {P : Program} {w : World} {α : Type} {g : Operand} {ps : Array Tmp} {assign body : Code} {Q : Exit → Act → World → Prop} {a : Act}
    (hro : F.round = none) (h1 : 1 ≤ n) {gf : Nat} {lb : Array Value} (hg : a.eval g = .func (.func gf) #[] lb) (hFg : F.fn gf) (eg : ∀ args w, (callFunc gf args).run P w = .ok (.enter gf args) w)
    {encs : α → Array Value} {Kp : World → World → Prop} {X : List α → α → World → World → Prop} {S Sp : List α → Prop} {w0 : World} (hseq : SeqNew F (n - 1) P gf lb encs Kp X S Sp w0)
    (hKt : ∀ {A B C : World}, Kp A B → Kp B C → Kp A C) (hKb : ∀ (W : World) (l : Nat) (o o' : Obj), w.heap.size ≤ l → W.heap[l]? = some o → o.isCells = false → o.isWalk = false → Kp W (W.putObj l o')) (hb0 : Below w0.heap.size w0 w) (hps : ∀ x, (encs x).size = ps.size)
    (I : List α → World → Prop) (Im : List α × α → World → Prop) (Ix : Code → List α → World → Prop) (hI : OwnFrom w.heap.size I) (hIm : OwnFrom w.heap.size Im) (hIx : ∀ c, OwnFrom w.heap.size (Ix c)) (h0 : I [] w)
    (hnew : ∀ pre x W0 W, I pre W0 → Kept (fun _ => False) W0 W → X pre x W0 W → Im (pre, x) W) (Ax : α → Act → World → Prop) (hAx : ∀ x a', OwnFrom w.heap.size (fun (_ : Unit) W => Ax x a' W))
    (hassign : ∀ (l : Nat) (pre : List α) (x : α) (W : World) (K : Act → World → Prop), Im (pre, x) W → (∀ a' W', KeepsFrom w.heap.size W W' → Kp W W' → Im (pre, x) W' → Ax x a' W' → K a' W') →
      assign.wpIn (F.inRound l) (n - 1 - 1) P (Exit.then K (fun _ _ _ => False)) { tmps := (ps.zip (encs x)).foldl (fun t (p, v) => t.setIfInBounds p v) a.tmps, defers := [] } W)
    (hbody : ∀ (l : Nat) (pre : List α) (x : α) (a' : Act) (W : World), w.heap.size ≤ l → (∃ r, W.heap[l]? = some (.loop r)) → Im (pre, x) W → Ax x a' W → body.wpIn (F.inRound l) (n - 1 - 1) P (ownPostG w.heap.size Kp I Ix (pre ++ [x]) W) a' W)
    (hdone : ∀ (D : Nat) (xs : List α) (W : World), w.heap.size ≤ D → S xs → I xs W → W.heap[D]? = some (.deferred (some [])) → Q .normal { a with defers := { target := .collected D, args := #[] } :: a.defers } W)
    (hstop : ∀ (D : Nat) (c : Code) (pre : List α) (W : World), w.heap.size ≤ D → Sp pre → Ix c pre W → W.heap[D]? = some (.deferred (some [])) → c.wpIn F n P Q { a with defers := { target := .collected D, args := #[] } :: a.defers } W) :
    (Code.rangeFunc g ps assign body).wpIn F n P Q a w := by
  refine wpIn_rangeFunc fun fn hfn => ?_
  rw [hro]
  obtain ⟨k, hk⟩ : ∃ k, w.heap.size = k := ⟨_, rfl⟩
  obtain ⟨rec, hrec⟩ : ∃ rec : LoopState → Option Code → Loop, rec = fun st pe => { state := st, pending := pe, fn, tmps := a.tmps, params := ps, assign, body, defers := k } := ⟨_, rfl⟩
  have hstart : Book k (rec .ready none) ((w.alloc (.deferred (some []))).alloc (.loop (rec .ready none))) := by
    have e := World.alloc_heap_new (w.alloc (.deferred (some []))) (.loop (rec .ready none))
    rw [World.size_alloc, hk] at e
    have e2 := World.alloc_heap_new w (.deferred (some []))
    rw [hk] at e2
    exact ⟨e, (Below.heap_alloc _ _ _ (by simp; omega)).trans e2⟩
  have hbel : Below w0.heap.size w0 ((w.alloc (.deferred (some []))).alloc (.loop (rec .ready none))) := hb0.trans ((((Below.refl _ w).alloc (Nat.le_refl _) _).alloc (by simp) _).mono hb0.size)
  have hI1 : I [] ((w.alloc (.deferred (some []))).alloc (.loop (rec .ready none))) := hI.alloc _ (hI.alloc _ h0)
  have hrun : (Instr.enterLoop fn a.tmps ps assign body none).run P w = .ok (k + 1, [{ target := .collected k, args := #[] }]) ((w.alloc (.deferred (some []))).alloc (.loop (rec .ready none))) := by
    rw [hrec, ← hk]; exact run_enterLoop_outer _ _ _ _ _
  have hsz : ((w.alloc (.deferred (some []))).alloc (.loop (rec .ready none))).heap.size = k + 1 + 1 := by rw [World.size_alloc, World.size_alloc, hk]
  generalize (w.alloc (.deferred (some []))).alloc (.loop (rec .ready none)) = V at hstart hbel hI1 hrun hsz
  rw [hk] at hI hIx hIm hAx hassign hbody hKb hdone hstop
  clear h0 hb0 hk
  refine ⟨k + 1, [{ target := .collected k, args := #[] }], V, { target := .fn (.func gf) lb, args := #[.func (.yield (k + 1)) #[] #[]] }, V, gf, #[.func (.yield (k + 1)) #[] #[]] ++ lb, V, hrun, ?_, ?_, ?_, fun _ => h1, ?_⟩
  · simp only [resolve, hg]; simp [go_sem]
  · intro f' hf'; simp [Target.leads] at hf'; subst hf'; exact hFg
  · simp [invoke, go_sem, eg]
  have hrow : ∀ {A : World} {row : Option Nat}, (∀ r, row = some r → V.heap.size ≤ r ∧ ∃ o : Obj, A.heap[r]? = some o ∧ o.isCells = false) → ∀ r, row = some r → k ≤ r ∧ ∃ o : Obj, A.heap[r]? = some o ∧ o.isCells = false :=
    fun h r e => by obtain ⟨hB, o, ho, hw⟩ := h r e; exact ⟨by omega, o, ho, hw⟩
  refine (hseq (k + 1) (fun pre W => I pre W ∧ Book k (rec .ready none) W) (fun pre W => ∃ c, Ix c pre W ∧ Book k (rec .done (some c)) W) V hbel
    (fun s A B row hs hgr hr => ⟨hI s A B row hs.1 hgr (hrow (A := A) hr), hs.2.abides hgr (fun r e => by have := (hr r e).1; omega)⟩)
    (fun s A B row ⟨c, hc, hb⟩ hgr hr => ⟨c, hIx c s A B row hc hgr (hrow (A := A) hr), hb.abides hgr (fun r e => by have := (hr r e).1; omega)⟩) ?_ ⟨hI1, hstart⟩).mono ?_
  · rintro pre x W0 W ⟨hi0, hb0⟩ hkept hX
    have hi := hnew pre x W0 W hi0 hkept hX
    have hb := hb0.kept hkept
    clear hi0 hb0 hkept hX
    have hy := run_yield (P := P) (args := encs x) hb.rec_ (by rw [hrec]; exact hps x)
    have hbr : ∀ W, Book k (rec .ready none) W → (Instr.beginRound (k + 1)).run P W = .ok () (W.putObj (k + 1) (.loop { rec .ready none with state := .busy })) := fun W h => run_beginRound h.rec_ (by rw [hrec])
    have her : ∀ (jump : Option Code) W, Book k { rec .ready none with state := .busy } W → (Instr.endRound (k + 1) jump).run P W = .ok (.bool jump.isNone) (W.putObj (k + 1) (.loop (rec (if jump.isNone then .ready else .done) jump))) := fun jump W h => by
      have e := run_endRound (P := P) jump h.rec_
      rw [hrec] at e ⊢
      exact e
    have hfn2 : (rec .ready none).fn = fn ∧ (rec .ready none).assign = assign ∧ (rec .ready none).body = body ∧ (rec .ready none).tmps = a.tmps ∧ (rec .ready none).params = ps := by rw [hrec]; exact ⟨rfl, rfl, rfl, rfl, rfl⟩
    rw [hrec] at hy
    refine ⟨fn, _, assign, body, hy, roundIn_of_wpIn hfn (hassign _ pre x W _ hi ?_)⟩
    intro a' Wa hkf hkp hia hax
    have hba := hb.from hkf
    refine ⟨_, hbr Wa hba, ?_⟩
    have hb2 : Book k { rec .ready none with state := .busy } (Wa.putObj (k + 1) (.loop { rec .ready none with state := .busy })) := hba.turn
    refine wpIn_mono (hbody _ pre x a' _ (by omega) ⟨_, hb2.rec_⟩ (hIm.putObj _ hia (by omega) hba.rec_ rfl) ((hAx x a').putObj (s := ()) _ hax (by omega) hba.rec_ rfl)) ?_
    have keeps : ∀ (W3 : World) (o : Obj), KeepsFrom k (Wa.putObj (k + 1) (.loop { rec .ready none with state := .busy })) W3 → KeepsFrom V.heap.size W (W3.putObj (k + 1) o) := fun W3 o hk3 =>
      ((keepsFrom_le hkf (by omega)).trans (keepsFrom_put Wa (by omega) _)).trans ((keepsFrom_le hk3 (by omega)).trans (keepsFrom_put W3 (by omega) o))
    have stop : ∀ (c : Code) (W3 : World), KeepsFrom k (Wa.putObj (k + 1) (.loop { rec .ready none with state := .busy })) W3 → Ix c (pre ++ [x]) W3 → Ix c (pre ++ [x]) (W3.putObj (k + 1) (.loop (rec .done (some c)))) ∧ Book k (rec .done (some c)) (W3.putObj (k + 1) (.loop (rec .done (some c)))) ∧ (Instr.endRound (k + 1) (some c)).run P W3 = .ok (.bool false) (W3.putObj (k + 1) (.loop (rec .done (some c)))) := fun c W3 hk3 hi3 =>
      have hb3 := hb2.from hk3
      ⟨(hIx c).putObj _ hi3 (by omega) hb3.rec_ rfl, hb3.turn, her (some c) W3 hb3⟩
    rintro e a3 W3 hp
    cases e with
    | normal =>
      obtain ⟨hk3, hkp3, hi3⟩ := hp
      have hb3 := hb2.from hk3
      exact ⟨_, _, her none W3 hb3, keeps W3 _ hk3, .inl ⟨rfl, ⟨hI.putObj _ hi3 (by omega) hb3.rec_ rfl, hb3.turn⟩, hKt hkp (hKt (hKt (hKb _ _ _ _ (by omega) hba.rec_ rfl rfl) hkp3) (hKb _ _ _ _ (by omega) hb3.rec_ rfl rfl))⟩⟩
    | ret => obtain ⟨q1, q2, q3⟩ := stop .ret W3 hp.1 hp.2; exact ⟨_, _, q3, keeps W3 _ hp.1, .inr ⟨rfl, .ret, q1, q2⟩⟩
    | exit id => obtain ⟨q1, q2, q3⟩ := stop (.exit id) W3 hp.1 hp.2; exact ⟨_, _, q3, keeps W3 _ hp.1, .inr ⟨rfl, .exit id, q1, q2⟩⟩
    | goto t => obtain ⟨q1, q2, q3⟩ := stop (.goto t) W3 hp.1 hp.2; exact ⟨_, _, q3, keeps W3 _ hp.1, .inr ⟨rfl, .goto t, q1, q2⟩⟩
    | panic ch => exact hp.elim
    | outgrown => exact hp.elim
  · rintro e W2 ⟨⟨v, rfl⟩, ⟨xs, hS, hi, hb⟩ | ⟨pre, hSp, c, hi, hb⟩⟩
    · exact ⟨none, _, by have e := run_endLoop (P := P) hb.rec_ (by rw [hrec]; simp); rw [hrec] at e; exact e, hdone _ xs _ (Nat.le_refl _) hS (hI.putObj _ hi (by omega) hb.rec_ rfl) ((World.putObj_heap_other (by omega)).trans hb.shut)⟩
    · exact ⟨some c, _, by have e := run_endLoop (P := P) hb.rec_ (by rw [hrec]; simp); rw [hrec] at e; exact e, hstop _ c pre _ (Nat.le_refl _) hSp ((hIx c).putObj _ hi (by omega) hb.rec_ rfl) ((World.putObj_heap_other (by omega)).trans hb.shut)⟩
end Go.Proofs.Ytcbklkcpjldcjaa
