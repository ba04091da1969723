/- Joined texts: Of no program: Canon's law within a round of a loop over an iterator, where a round of another one may be called (printed by gencanonrd.py). The store: Scan, and the function that it hands back. The store: what Scan hands back, as an iterator. -/
import Derived.Test.YtcbklkcpjldcjaaJ10
import Derived.OwnWalkIn
import Derived.Test.YtcbklkcpjldcjaaJ30
/- Of no program: Canon's law within a round of a loop over an iterator, where a round of another one may be called (printed by gencanonrd.py). -/
namespace Go.Proofs.Ytcbklkcpjldcjaa
open Go.ChangeShapes Go.WideShapes Go.ChangeAt Go.RowKit

section
def noDefer (ops : Array Oper) : Bool := ops.all fun o => match o.op with
  | .defer _ => false
  | _ => true
theorem noDefer_at {ops : Array Oper} (h : noDefer ops = true) {i : Nat} {o : Oper} (ho : ops[i]? = some o) : ∀ c, o.op ≠ .defer c := by
  intro c hc
  obtain ⟨hlt, rfl⟩ := Array.getElem?_eq_some_iff.1 ho
  have := (Array.all_eq_true.1 h) i hlt
  rw [hc] at this
  cases this
variable {lr n : Nat} {P : Program} {ops : Array Oper} {Q : Exit → Act → World → Prop}

def wpCanR (lr n : Nat) (P : Program) (ops : Array Oper) (Q : Exit → Act → World → Prop) : List (Nat × Bool × Nat) → List Pend → Act → World → Prop
  | [], _, a, w => Q .normal a w
  | (i, e, k) :: rest, pend, a, w => ∃ o, ops[i]? = some o ∧
    match e with
    | false => if Region.wanted o (yielded ops a.tmps) then o.still P a w (fun b => wpCanR lr n P ops Q rest (⟨o, a, b, k⟩ :: pend) b w) else wpCanR lr n P ops Q rest (⟨o, a, a, k⟩ :: pend) (a.put o.dst undef) w
    | true => wpListIn (Fence.wide.inRound lr) n P ops (effQ Q fun b w' => allOk P ops i pend w' ∧ wpCanR lr n P ops Q rest (keepPend i pend) b w') [o] a w

theorem wpCanR_nil {pend : List Pend} {a : Act} {w : World} (h : Q .normal a w) : wpCanR lr n P ops Q [] pend a w := h

theorem wpCanR_eff {i k : Nat} {rest : List (Nat × Bool × Nat)} {pend : List Pend} {a : Act} {w : World} {o : Oper} (ho : ops[i]? = some o)
    (h : wpListIn (Fence.wide.inRound lr) n P ops (effQ Q fun b w' => allOk P ops i pend w' ∧ wpCanR lr n P ops Q rest (keepPend i pend) b w') [o] a w) : wpCanR lr n P ops Q ((i, true, k) :: rest) pend a w :=
  ⟨o, ho, h⟩

/-- one that is carried out and only reads -/
theorem wpCanR_read {i k : Nat} {rest : List (Nat × Bool × Nat)} {pend : List Pend} {a : Act} {w : World} {o : Oper} (ho : ops[i]? = some o) (hg : o.guard = none)
    (h : ∀ K : Act → Prop, (∀ b, wpCanR lr n P ops Q rest (⟨o, a, b, k⟩ :: pend) b w → K b) → o.still P a w K) : wpCanR lr n P ops Q ((i, false, k) :: rest) pend a w := by
  refine ⟨o, ho, ?_⟩
  dsimp only
  rw [if_pos (by simp [Region.wanted, hg])]
  exact h _ (fun _ h => h)
/-- one with a guard that says yes -/
theorem wpCanR_yes {i k : Nat} {rest : List (Nat × Bool × Nat)} {pend : List Pend} {a : Act} {w : World} {o : Oper} (ho : ops[i]? = some o) (hg : Region.wanted o (yielded ops a.tmps) = true)
    (h : ∀ K : Act → Prop, (∀ b, wpCanR lr n P ops Q rest (⟨o, a, b, k⟩ :: pend) b w → K b) → o.still P a w K) : wpCanR lr n P ops Q ((i, false, k) :: rest) pend a w := by
  refine ⟨o, ho, ?_⟩
  dsimp only
  rw [if_pos hg]
  exact h _ (fun _ h => h)
/-- one with a guard that says no -/
theorem wpCanR_no {i k : Nat} {rest : List (Nat × Bool × Nat)} {pend : List Pend} {a : Act} {w : World} {o : Oper} (ho : ops[i]? = some o) (hg : Region.wanted o (yielded ops a.tmps) = false)
    (h : wpCanR lr n P ops Q rest (⟨o, a, a, k⟩ :: pend) (a.put o.dst undef) w) : wpCanR lr n P ops Q ((i, false, k) :: rest) pend a w := by
  refine ⟨o, ho, ?_⟩
  dsimp only
  rw [if_neg (by simp [hg])]
  exact h

def wpAnyER (lr n : Nat) (P : Program) (ops : Array Oper) (Q : Exit → Act → World → Prop) (S : Array Bool → World → Prop) : Nat → Array Bool → Act → World → Prop
  | 0, listed, a, w => Region.ready .any ops listed = [] ∧ Q .normal a w
  | fuel + 1, listed, a, w =>
    (Region.ready .any ops listed = [] → Q .normal a w) ∧
    ∀ i ∈ Region.ready .any ops listed, wpOpIn (Fence.wide.inRound lr) n P ops Q i (fun a' w' => S (listed.setIfInBounds i true) w' ∧ wpAnyER lr n P ops Q S fuel (listed.setIfInBounds i true) a' w') a w

theorem wpAnyIn_of_ER {S : Array Bool → World → Prop} : ∀ (fuel : Nat) (listed : Array Bool) (a : Act) (w : World), wpAnyER lr n P ops Q S fuel listed a w → wpAnyIn (Fence.wide.inRound lr) n P .any ops Q fuel listed a w
  | 0, _, _, _, h => h
  | fuel + 1, _, _, _, h => ⟨h.1, fun i hi => wpOpIn_mono (fun a' w' h' => wpAnyIn_of_ER fuel _ a' w' h'.2) (h.2 i hi)⟩

theorem wpAnyER_mono {S S' : Array Bool → World → Prop} {G : Array Bool → Prop} (hG : ∀ l i, G l → G (l.setIfInBounds i true)) (hS : ∀ l w, G l → S l w → S' l w) :
    ∀ (fuel : Nat) (listed : Array Bool) (a : Act) (w : World), G listed → wpAnyER lr n P ops Q S fuel listed a w → wpAnyER lr n P ops Q S' fuel listed a w
  | 0, _, _, _, _, h => h
  | fuel + 1, listed, _, _, hl, h => ⟨h.1, fun i hi => wpOpIn_mono (fun a' w' h' => ⟨hS _ _ (hG listed i hl) h'.1, wpAnyER_mono hG hS fuel _ a' w' (hG listed i hl) h'.2⟩) (h.2 i hi)⟩

theorem Oper.wpRd_of_still {o : Oper} (hnd : ∀ c, o.op ≠ .defer c) {a : Act} {w : World} {K : Act → Prop} {K' : Act → World → Prop} {Q' : Exit → Act → World → Prop} (h : ∀ a, K a → K' a w) (hh : o.still P a w K) : o.wpIn (Fence.wide.inRound lr) n P a w K' Q' := by
  unfold Oper.still at hh
  unfold Oper.wpIn
  refine ⟨fun _ _ => trivial, ?_⟩
  rw [Oper.semAt_plain _ _ _ hnd]
  generalize (execOp a.eval o).run P w = r at *
  cases r with
  | ok x w' =>
    cases x <;> simp only [Oper.stillUpon] at hh <;> simp only [Oper.uponIn]
    case enter f args =>
      obtain ⟨rfl, v, hc, hn⟩ := hh
      exact ⟨fun hd => (by cases hd), callsIn_wide.2 (hc.mono fun e w'' ⟨he, hw⟩ => by subst he; subst hw; exact h _ hn)⟩
    all_goals (obtain ⟨rfl, h2⟩ := hh; exact h _ h2)
  | halt x w' => simp only [Oper.stillUpon] at hh

theorem wpOpRd_of_stOp (hnd : noDefer ops = true) {i : Nat} {a : Act} {w : World} {K : Act → Prop} {K' : Act → World → Prop} {Q' : Exit → Act → World → Prop} (h : ∀ a, K a → K' a w) (hh : stOp P ops w i K a) : wpOpIn (Fence.wide.inRound lr) n P ops Q' i K' a w := by
  unfold stOp at hh
  unfold wpOpIn
  split
  · rename_i ho; simp only [ho] at hh; exact h _ hh
  · rename_i o ho
    simp only [ho] at hh
    split
    · rename_i hw; simp only [hw, if_true] at hh; exact Oper.wpRd_of_still (noDefer_at hnd ho) h hh
    · rename_i hw; simp only [hw] at hh; exact ⟨fun _ _ => trivial, h _ hh⟩

theorem wpOpRd_putE (hnd : noDefer ops = true) {j : Nat} {oi oj : Oper} {v : Value} {a0 : Act} (hj : ops[j]? = some oj) (hap : oi.apart ops oj = true)
    (hsi : ∀ cs b, oi.op ≠ .select cs b) (hsj : ∀ cs b, oj.op ≠ .select cs b)
    (hQ : ∀ c a w, Q (.panic c) (a.put oi.dst v) w → Q (.panic c) a w) {K : Act → World → Prop} {a : Act} {w : World}
    (hy : AsAt ops oi a0 a) (h : wpOpIn (Fence.wide.inRound lr) n P ops Q j K (a.put oi.dst v) w) :
    wpOpIn (Fence.wide.inRound lr) n P ops Q j (fun a' w' => AsAt ops oi a0 a' ∧ K (a'.put oi.dst v) w') a w := by
  obtain ⟨h1, h2, h3⟩ := Oper.apart_spec hap
  have keep : ∀ (a : Act), AsAt ops oi a0 a → ∀ u, AsAt ops oi a0 (a.put oj.dst u) := fun a hy u => hy.put hsi oj.dst u h3
  have keepD : ∀ d, AsAt ops oi a0 { a with defers := d :: a.defers } := fun d => ⟨hy.1, hy.2.1, hy.2.2⟩
  have hdf := noDefer_at hnd hj
  unfold wpOpIn at *
  simp only [hj] at *
  rw [wanted_put oj a oi.dst v h1] at h
  split
  · rename_i hw
    simp only [hw, if_true] at h
    unfold Oper.wpIn at *
    refine ⟨fun _ _ => trivial, ?_⟩
    have h := h.2
    rw [Oper.semAt_plain _ _ _ hdf, execOp_put oj hsj a oi.dst v h1] at h
    rw [Oper.semAt_plain _ _ _ hdf]
    generalize (execOp a.eval oj).run P w = r at *
    cases r with
    | ok x w' =>
      cases x <;> simp only [Oper.uponIn] at h ⊢
      case value u => exact ⟨keep a hy u, by rw [← Act.put_comm a v u h2]; exact h⟩
      case skip => exact ⟨keep a hy _, by rw [← Act.put_comm a v undef h2]; exact h⟩
      case defer d =>
        refine ⟨keep _ (keepD d) _, ?_⟩
        rw [← Act.put_comm _ v undef h2, ← Act.put_defers]
        exact h
      case enter f args =>
        refine ⟨h.1, CallsIn.mono h.2 fun e w'' he => ?_⟩
        cases e with
        | returned u => exact ⟨keep a hy u, by rw [← Act.put_comm a v u h2]; exact he⟩
        | panicked c => exact hQ _ _ _ he
        | outgrown => exact he
      case row row args => exact ⟨h.1, RowsIn.mono h.2 fun u w'' he => ⟨keep a hy u, by rw [← Act.put_comm a v u h2]; exact he⟩⟩
      case round l f tmps assign body =>
        refine ⟨h.1, RoundIn.mono h.2 fun e w'' he => ?_⟩
        cases e with
        | returned u => exact ⟨keep a hy u, by rw [← Act.put_comm a v u h2]; exact he⟩
        | panicked c => exact hQ _ _ _ he
        | outgrown => exact he
    | halt x w' =>
      cases x <;> simp only [Oper.uponIn] at h ⊢
      case panic u => exact hQ _ _ _ h
  · rename_i hw
    simp only [hw] at h
    exact ⟨fun _ _ => trivial, keep a hy _, by rw [← Act.put_comm a v undef h2]; exact h.2⟩

theorem take_ER (hnd : noDefer ops = true) {i k : Nat} {oi : Oper} {v : Value} {a0 b0 : Act} {pend : List Pend} (hi : ops[i]? = some oi) (hsel : ∀ (j : Nat) (o : Oper) cs b, ops[j]? = some o → o.op ≠ .select cs b)
    (hb0 : Region.wanted oi (yielded ops a0.tmps) = true → b0 = a0.put oi.dst v) (hv : Region.wanted oi (yielded ops a0.tmps) = false → v = undef)
    (hk : k ≠ i) (hpk : ∀ x ∈ pend, x.k ≠ i) (hw : k < ops.size → ∃ n, waits ops n k i = true)
    (hQ : ∀ c a w, Q (.panic c) (a.put oi.dst v) w → Q (.panic c) a w) :
    ∀ (fuel : Nat) (listed : Array Bool) (a : Act) (w : World), listed.size = ops.size → ClosedL ops listed →
      (∀ j oj, ops[j]? = some oj → j ≠ i → listed.getD j true = false → (∀ e ∈ oj.after, Region.binds .any e = true → e.on ≠ i) → oi.apart ops oj = true) →
      i ∈ Region.ready .any ops listed → AsAt ops oi a0 a → (∃ v', YieldsAt P ops w oi v' a ∧ a0.put oi.dst v' = a0.put oi.dst v) → SP P ops pend listed w →
      wpAnyER lr n P ops Q (SP P ops (⟨oi, a0, b0, k⟩ :: pend)) fuel (listed.setIfInBounds i true) (a.put oi.dst v) w → wpAnyER lr n P ops Q (SP P ops pend) (fuel + 1) listed a w := by
  intro fuel
  have fin : ∀ {f : Nat} {listed : Array Bool} {a : Act} {w : World}, AsAt ops oi a0 a → (∃ v', YieldsAt P ops w oi v' a ∧ a0.put oi.dst v' = a0.put oi.dst v) → SP P ops pend listed w →
      wpAnyER lr n P ops Q (SP P ops (⟨oi, a0, b0, k⟩ :: pend)) f (listed.setIfInBounds i true) (a.put oi.dst v) w →
      wpOpIn (Fence.wide.inRound lr) n P ops Q i (fun a' w' => SP P ops pend (listed.setIfInBounds i true) w' ∧ wpAnyER lr n P ops Q (SP P ops pend) f (listed.setIfInBounds i true) a' w') a w := by
    intro f listed a w ha ⟨v', hy, he⟩ hS H
    refine wpOpRd_of_stOp hnd (K := fun a' => a' = a.put oi.dst v) (fun a' ha' => ?_) (hy.stOp hi (put_same ha.2.2 he))
    subst ha'
    refine ⟨fun x hx hl => hS x hx ?_, wpAnyER_mono (G := fun _ => True) (fun _ _ _ => trivial) (fun l w _ h x hx => h x (List.mem_cons_of_mem _ hx)) f _ _ _ trivial H⟩
    rw [getD_set_ne false (Ne.symm (hpk x hx))] at hl
    exact hl
  induction fuel with
  | zero =>
    intro listed a w hsz hc _ hr ha hy hS H
    refine ⟨fun h => (by rw [h] at hr; cases hr), fun j hj => ?_⟩
    by_cases hji : j = i
    · subst hji; exact fin ha hy hS H
    · have := ready_mono hj hji
      rw [H.1] at this
      cases this
  | succ fuel ih =>
    intro listed a w hsz hc hfree hr ha hy hS H
    refine ⟨fun h => (by rw [h] at hr; cases hr), fun j hj => ?_⟩
    by_cases hji : j = i
    · subst hji; exact fin ha hy hS H
    · have h1 := H.2 j (ready_mono hj hji)
      obtain ⟨hjun, oj, hoj, hall⟩ := mem_ready.1 hj
      have hiun := getD_both (mem_ready.1 hr).1
      have hnot : ∀ e ∈ oj.after, Region.binds .any e = true → e.on ≠ i := fun e he hb heq => by
        have h1 := hall e he hb
        rw [heq, hiun] at h1
        cases h1
      have h2 := wpOpRd_putE hnd hoj (hfree j oj hoj hji hjun hnot) (fun cs b => hsel i oi cs b hi) (fun cs b => hsel j oj cs b hoj) hQ ha h1
      have hfree' : ∀ k ok, ops[k]? = some ok → k ≠ i → (listed.setIfInBounds j true).getD k true = false →
          (∀ e ∈ ok.after, Region.binds .any e = true → e.on ≠ i) → oi.apart ops ok = true := fun k ok hk hki hun hno => by
        refine hfree k ok hk hki ?_ hno
        by_cases hjk : j = k
        · subst hjk; exact hjun
        · rw [getD_set_ne true hjk] at hun; exact hun
      refine wpOpIn_mono (fun a' w' h3 => ?_) h2
      obtain ⟨ha', hS', h4⟩ := h3
      have hc' := hc.set hj
      have hkun : ∀ l : Array Bool, ClosedL ops l → l.size = ops.size → l.getD i false = false → l.getD k false = false := by
        intro l hcl hls hil
        by_cases hks : k < ops.size
        · obtain ⟨n, hn⟩ := hw hks
          cases hkl : l.getD k false with
          | false => rfl
          | true => rw [waits_listed hcl n k i hn hkl] at hil; cases hil
        · simp [Array.getElem?_eq_none (show l.size ≤ k by omega)]
      have hij : (listed.setIfInBounds j true).getD i false = false := by rw [getD_set_ne false hji]; exact hiun
      have hkj : (listed.setIfInBounds j true).getD k false = false := hkun _ hc' (by simpa using hsz) hij
      have hSP : SP P ops pend (listed.setIfInBounds j true) w' := fun x hx hl => by
        refine hS' x (List.mem_cons_of_mem _ hx) ?_
        rw [Array.setIfInBounds_comm _ _ (Ne.symm hji), getD_set_ne false (Ne.symm (hpk x hx))]
        exact hl
      refine ⟨hSP, ih (listed.setIfInBounds j true) a' w' (by simpa using hsz) hc' hfree' (ready_mono hr (Ne.symm hji)) ha' ?_ hSP ?_⟩
      · have hok := hS' ⟨oi, a0, b0, k⟩ (by simp) (by rw [Array.setIfInBounds_comm _ _ (Ne.symm hji), getD_set_ne false (Ne.symm hk)]; exact hkj)
        unfold Pend.ok at hok
        by_cases hwt : Region.wanted oi (yielded ops a0.tmps) = true
        · simp only [hwt, if_true] at hok
          obtain ⟨v', hv', he⟩ := yieldsAt_of_stOp hi (stOp_of (ops := ops) (K := fun b => b = b0) hi (by rw [if_pos hwt]; exact hok))
          exact ⟨v', YieldsAt.asAt hv' ha', he.trans (hb0 hwt)⟩
        · have hwf : Region.wanted oi (yielded ops a0.tmps) = false := by simpa using hwt
          exact ⟨v, .inr ⟨ha'.2.1.trans hwf, hv hwf⟩, rfl⟩
      · rw [Array.setIfInBounds_comm _ _ hji]
        exact h4
theorem wpCanR_any (hnd : noDefer ops = true) (hs : Region.noSelect ops = true) {Qn : Exit → Act → World → Prop} (hnorm : ∀ a w, Q .normal a w → Qn .normal a w) (hout : ∀ a w, Q .outgrown a w → Qn .outgrown a w)
    (hQ : ∀ c (a : Act) (d : Option Tmp) (v : Value) (w : World), Qn (.panic c) (a.put d v) w → Qn (.panic c) a w) (effs : List Nat) :
    ∀ (sched : List (Nat × Bool × Nat)) (pend : List Pend) (listed : Array Bool) (a : Act) (w : World), canonOk ops effs sched listed = true → listed.size = ops.size → ClosedL ops listed →
      (∀ x ∈ pend, ops.size ≤ x.k ∨ effs.contains x.k = true) → SP P ops pend listed w → wpCanR lr n P ops Q sched pend a w → wpAnyER lr n P ops Qn (SP P ops pend) sched.length listed a w
  | [], pend, listed, a, w, hB, _, _, _, _, h => ⟨by simpa [canonOk] using hB, hnorm _ _ h⟩
  | (i, false, k) :: rest, pend, listed, a, w, hB, hsz, hc, hp, hS, h => by
    simp only [canonOk, Bool.and_eq_true, Bool.or_eq_true, decide_eq_true_eq, Bool.not_eq_true'] at hB
    obtain ⟨⟨⟨⟨hr, hf⟩, hne⟩, hk⟩, hB'⟩ := hB
    obtain ⟨o, ho, h⟩ := h
    dsimp only at h
    have hr' : i ∈ Region.ready .any ops listed := by simpa using hr
    have hilt : i < ops.size := (Array.getElem?_eq_some_iff.1 ho).1
    have hki : k ≠ i := fun e => by subst e; rcases hk with hk | hk; · omega
                                    · rw [hne] at hk; cases hk.1
    have hpk : ∀ x ∈ pend, x.k ≠ i := fun x hx e => by
      rcases hp x hx with h1 | h1
      · omega
      · rw [e, hne] at h1; cases h1
    have hw : k < ops.size → ∃ n, waits ops n k i = true := fun hlt => by
      rcases hk with hk | hk
      · omega
      · exact ⟨_, hk.2⟩
    have hc' := hc.set hr'
    have step : ∀ (b0 : Act) (v : Value), (Region.wanted o (yielded ops a.tmps) = true → b0 = a.put o.dst v) → (Region.wanted o (yielded ops a.tmps) = false → v = undef) → YieldsAt P ops w o v a →
        (⟨o, a, b0, k⟩ : Pend).ok P ops w → wpCanR lr n P ops Q rest (⟨o, a, b0, k⟩ :: pend) (a.put o.dst v) w → wpAnyER lr n P ops Qn (SP P ops pend) ((i, false, k) :: rest).length listed a w := by
      intro b0 v hb0 hv hy hok hrest
      refine take_ER hnd ho (Region.noSelect_spec hs) hb0 hv hki hpk hw (fun c a w => hQ c a _ _ w) rest.length listed a w hsz hc (Region.free_spec ho hf) hr' ⟨rfl, rfl, rfl⟩ ⟨v, hy, rfl⟩ hS ?_
      refine wpCanR_any hnd hs hnorm hout hQ effs rest _ _ _ _ hB' (by simpa using hsz) hc' (fun x hx => ?_) (fun x hx hl => ?_) hrest
      · rcases List.mem_cons.1 hx with rfl | hx
        · rcases hk with hk | hk
          · exact .inl hk
          · exact .inr hk.1
        · exact hp x hx
      · rcases List.mem_cons.1 hx with rfl | hx
        · exact hok
        · refine hS x hx ?_
          rw [getD_set_ne false (Ne.symm (hpk x hx))] at hl
          exact hl
    by_cases hwt : Region.wanted o (yielded ops a.tmps) = true
    · rw [if_pos hwt] at h
      obtain ⟨v, hy, hK⟩ := yieldsAt_of_stOp (ops := ops) ho (stOp_of (ops := ops) ho (by rw [if_pos hwt]; exact h))
      refine step (a.put o.dst v) v (fun _ => rfl) (fun e => by rw [hwt] at e; cases e) hy ?_ hK
      have := hy.stOp ho (K := fun b => b = a.put o.dst v) rfl
      unfold stOp at this
      simp only [ho] at this
      unfold Pend.ok
      rw [if_pos hwt] at this ⊢
      exact this
    · have hwf : Region.wanted o (yielded ops a.tmps) = false := by simpa using hwt
      rw [if_neg hwt] at h
      exact step a undef (fun e => absurd e hwt) (fun _ => rfl) (.inr ⟨hwf, rfl⟩) (by unfold Pend.ok; rw [if_neg hwt]; trivial) h
  | (i, true, k) :: rest, pend, listed, a, w, hB, hsz, hc, hp, hS, h => by
    simp only [canonOk, Bool.and_eq_true, decide_eq_true_eq] at hB
    obtain ⟨⟨hr, he⟩, hB'⟩ := hB
    obtain ⟨o, ho, h⟩ := h
    dsimp only at h
    refine ⟨fun h0 => (by rw [h0] at hr; cases hr), fun j hj => ?_⟩
    have hji : j = i := by rw [hr] at hj; simpa using hj
    subst hji
    have hc' := hc.set hj
    have hsz' : (listed.setIfInBounds j true).size = ops.size := by simpa using hsz
    have hjlt : j < listed.size := by rw [hsz]; exact (Array.getElem?_eq_some_iff.1 ho).1
    have fin : ∀ b w', (allOk P ops j pend w' ∧ wpCanR lr n P ops Q rest (keepPend j pend) b w') →
        SP P ops pend (listed.setIfInBounds j true) w' ∧ wpAnyER lr n P ops Qn (SP P ops pend) rest.length (listed.setIfInBounds j true) b w' := by
      intro b w' ⟨h1, h2⟩
      have hlist : (listed.setIfInBounds j true).getD j false = true := by simp [hjlt]
      have hSP : SP P ops pend (listed.setIfInBounds j true) w' := fun x hx hl => by
        by_cases hxj : x.k = j
        · rw [hxj, hlist] at hl; cases hl
        · exact allOk_mem h1 hx hxj
      refine ⟨hSP, ?_⟩
      have hk2 : SP P ops (keepPend j pend) (listed.setIfInBounds j true) w' := fun x hx hl => hSP x (keepPend_mem hx).1 hl
      have ih := wpCanR_any hnd hs hnorm hout hQ effs rest _ _ _ _ hB' hsz' hc' (fun x hx => hp x (keepPend_mem hx).1) hk2 h2
      refine wpAnyER_mono (G := fun l => l.getD j false = true) (fun l i hl => getD_set_true hl) (fun l w hl hh x hx hxl => ?_) _ _ _ _ hlist ih
      by_cases hxj : x.k = j
      · rw [hxj, hl] at hxl; cases hxl
      · exact hh x (mem_keepPend hx hxj) hxl
    unfold wpOpIn
    simp only [ho]
    unfold wpListIn at h
    split
    · rename_i hwt
      rw [if_pos hwt] at h
      unfold Oper.wpIn at *
      refine ⟨fun _ _ => trivial, ?_⟩
      have h := h.2
      generalize (o.semAt (Fence.wide.inRound lr).round a.eval).run P w = r at *
      cases r with
      | ok x w' =>
        cases x <;> simp only [Oper.uponIn] at h ⊢
        case value u => exact fin _ _ h
        case skip => exact fin _ _ h
        case defer d => exact fin _ _ h
        case enter f args =>
          refine ⟨h.1, CallsIn.mono h.2 fun e w'' he => ?_⟩
          cases e with
          | returned u => exact fin _ _ he
          | panicked c => exact (he : False).elim
          | outgrown => obtain ⟨b, w3, h3⟩ := he; exact ⟨b, w3, hout _ _ h3⟩
        case row row args => exact ⟨h.1, RowsIn.mono h.2 fun u w'' he => fin _ _ he⟩
        case round l f tmps assign body =>
          refine ⟨h.1, RoundIn.mono h.2 fun e w'' he => ?_⟩
          cases e with
          | returned u => exact fin _ _ he
          | panicked c => exact (he : False).elim
          | outgrown => obtain ⟨b, w3, h3⟩ := he; exact ⟨b, w3, hout _ _ h3⟩
      | halt x w' =>
        cases x <;> simp only [Oper.uponIn] at h ⊢
        case panic u => exact (h : False).elim
    · rename_i hwt
      rw [if_neg hwt] at h
      exact ⟨fun _ _ => trivial, fin _ _ h.2⟩

/-- A REGION THAT DRAWS ITS ORDER, WALKED IN ONE ORDER. -/
theorem wpRd_region_canon {id : Nat} {a : Act} {w : World} {l : List Oper} (sched : List (Nat × Bool × Nat)) (hm : P.follows .mixedOrders = true) (hnd : noDefer l.toArray = true)
    (hB : (Region.noSelect l.toArray && (decide (sched.length = l.length) && canonOk l.toArray ((sched.filter (·.2.1)).map (·.1)) sched (Array.replicate l.toArray.size false))) = true)
    (h : wpCanR lr n P l.toArray Q sched [] a w.drew) : (Code.region id l.toArray true).wpIn (Fence.wide.inRound lr) n P Q a w := by
  simp only [Bool.and_eq_true, decide_eq_true_eq] at hB
  obtain ⟨hs, hlen, hB⟩ := hB
  have key : wpAnyER lr n P l.toArray (NoPanic Q) (SP P l.toArray []) sched.length (Array.replicate l.toArray.size false) a w.drew := by
    refine wpCanR_any hnd (Q := Q) (Qn := NoPanic Q) hs (fun _ _ h => h) (fun _ _ h => h) (fun c a d v w h => (h : False).elim) _ sched [] _ a _ hB (by simp) (fun j o hj hl => ?_) (fun x hx => by cases hx) (fun x hx => by cases hx) h
    rw [getD_replicate_false] at hl
    cases hl
  have hz : sched.length = l.toArray.size := by simpa using hlen
  rw [hz] at key
  exact Code.wpIn_mono NoPanic.imp (wpIn_region_any hm (wpAnyIn_of_ER _ _ _ _ key))

/-! ### one operation that turns the world -/
theorem wpListRd_do {a : Act} {w : World} {rest : List Oper} {o : Oper} (hw : Region.wanted o (yielded ops a.tmps) = true) (h : ∀ K : Act → World → Prop, (∀ b w', wpListIn (Fence.wide.inRound lr) n P ops Q rest b w' → K b w') → o.wpIn (Fence.wide.inRound lr) n P a w K Q) : wpListIn (Fence.wide.inRound lr) n P ops Q (o :: rest) a w := by
  unfold wpListIn
  rw [if_pos hw]
  exact h _ (fun _ _ h => h)
theorem wpListRd_not {a : Act} {w : World} {rest : List Oper} {o : Oper} (hw : Region.wanted o (yielded ops a.tmps) = false) (h : wpListIn (Fence.wide.inRound lr) n P ops Q rest (a.put o.dst undef) w) : wpListIn (Fence.wide.inRound lr) n P ops Q (o :: rest) a w := by
  unfold wpListIn
  rw [if_neg (by simp [hw])]
  exact ⟨fun _ _ => trivial, h⟩
end
end Go.Proofs.Ytcbklkcpjldcjaa

/- The store: Scan, and the function that it hands back. -/
namespace Go.Proofs.Ytcbklkcpjldcjaa
open Go.ChangeShapes Go.WideShapes Go.ChangeAt Go.RowKit
set_option maxRecDepth 100000
set_option linter.unusedSimpArgs false
attribute [local go_sem] Oper.semAt_some

/-- a row, as it is told -/
structure RowE where
  row : List Val
  ro : Option Addr
  rn : Nat
  rc : Nat
abbrev RowE.v (x : RowE) : Value := .slice x.ro x.rn x.rc
/-- a row that was made between two worlds -/
def NewRow (x : RowE) (W0 W : World) : Prop := Own W tV 3 x.v x.row.length (x.row.flatMap Val.cells) ∧ ∀ g, x.v.ownBlock = some g → W0.heap.size ≤ g
/-- the rows told of the first places -/
def toldN (F : TabM) (j : Nat) : List (List Val) := ((F.take j).filter (fun p => !p.2.kept)).map (fun p => p.2.row)
theorem toldN_succ {F : TabM} {j : Nat} {p : Val × PlM} (h : F[j]? = some p) : toldN F (j + 1) = toldN F j ++ (if p.2.kept then [] else [p.2.row]) := by
  unfold toldN
  rw [List.take_add_one, h, List.filter_append, List.map_append]
  cases hk : p.2.kept <;> simp [hk]
theorem toldN_le {F : TabM} {j k : Nat} (h : j ≤ k) : toldN F j <+: toldN F k := by
  unfold toldN
  exact ((List.take_prefix_take_left h).filter _).map _

abbrev scanV (b1 b2 b3 : Nat) : Value := .func (.func 50) #[] #[.pointer (some ⟨b1, 0, none⟩), .pointer (some ⟨b2, 0, none⟩), .pointer (some ⟨b3, 0, none⟩)]
abbrev tY : TypeId := 103
abbrev tSp : TypeId := 28
theorem infoSeq1 : Try.prog.underlying 84 = some (.func #[103] #[] false) := by kernel_rfl
@[go_sem] theorem run_eql_scan (w : World) (b1 b2 b3 : Nat) : (binOp .eql 84 (scanV b1 b2 b3) .nilFunc).run Try.prog w = .ok (.bool false) w := run_eql_func_nil _ _ _ _ _ _ _ _ infoSeq1

/-- the three boxes of Scan -/
structure Boxes3 (W : World) (b1 b2 b3 : Nat) (s : Nat) (i : Int) (sp : Spn) : Prop where
  one : W.heap[b1]? = some (.cells #[.pointer (some ⟨s, 0, none⟩)] tSp (0, 0))
  two : W.heap[b2]? = some (.cells #[.int .i64 i] tI (0, 0))
  three : W.heap[b3]? = some (.cells sp.cells tS (0, 0))
theorem Boxes3.kept {W W' : World} {b1 b2 b3 s : Nat} {i : Int} {sp : Spn} (h : Boxes3 W b1 b2 b3 s i sp) (k : Kept (fun _ => False) W W') : Boxes3 W' b1 b2 b3 s i sp :=
  ⟨(k.block _ (lt_of_heap h.one) (fun h => h)).trans h.one, (k.block _ (lt_of_heap h.two) (fun h => h)).trans h.two, (k.block _ (lt_of_heap h.three) (fun h => h)).trans h.three⟩
set_option maxHeartbeats 1000000 in
theorem Scan_ok (s : Nat) (i : Int) (sp : Spn) (w : World) :
    Calls Try.prog 37 #[.pointer (some ⟨s, 0, none⟩), .int .i64 i, sp.v] w fun e w' => ∃ b1 b2 b3, e = .returned (scanV b1 b2 b3) ∧ Kept (fun _ => False) w w' ∧ Boxes3 w' b1 b2 b3 s i sp ∧ w.heap.size ≤ b1 ∧ w.heap.size ≤ b2 ∧ w.heap.size ≤ b3 := by
  obtain ⟨w1, hw1⟩ : ∃ w1, w1 = w.alloc (.cells #[.pointer (some ⟨s, 0, none⟩)] tSp) := ⟨_, rfl⟩
  obtain ⟨w2, hw2⟩ : ∃ w2, w2 = w1.alloc (.cells #[.int .i64 i] tI) := ⟨_, rfl⟩
  have k1 : Kept (fun _ => False) w w1 := by rw [hw1]; exact (Kept.refl _ _).alloc _
  have k2 : Kept (fun _ => False) w1 w2 := by rw [hw2]; exact (Kept.refl _ _).alloc _
  have k3 : Kept (fun _ => False) w2 (w2.alloc (.cells sp.cells tS)) := (Kept.refl _ _).alloc _
  have a1 : w1.heap[w.heap.size]? = some (.cells #[.pointer (some ⟨s, 0, none⟩)] tSp (0, 0)) := by rw [hw1]; exact heap_alloc_self _ _
  have a2 : w2.heap[w1.heap.size]? = some (.cells #[.int .i64 i] tI (0, 0)) := by rw [hw2]; exact heap_alloc_self _ _
  have a3 := heap_alloc_self w2 (.cells sp.cells tS)
  have e1 : w1.heap.size = w.heap.size + 1 := by rw [hw1, World.size_alloc]
  have e2 : w2.heap.size = w.heap.size + 1 + 1 := by rw [hw2, World.size_alloc, e1]
  have hb : Boxes3 (w2.alloc (.cells sp.cells tS)) w.heap.size (w.heap.size + 1) (w.heap.size + 1 + 1) s i sp := by
    refine ⟨?_, ?_, ?_⟩
    · exact (k3.block _ (by omega) (fun h => h)).trans ((k2.block _ (lt_of_heap a1) (fun h => h)).trans a1)
    · rw [← e1]; exact (k3.block _ (lt_of_heap a2) (fun h => h)).trans a2
    · rw [← e2]; exact a3
  have hk := (k1.trans k2 (fun _ h => h.elim)).trans k3 (fun _ h => h.elim)
  rw [hw2, hw1] at hb hk
  have H := Lib.hid (And.intro hk hb)
  clear k1 k2 k3 a1 a2 a3 e1 e2 hb hk hw2 hw1
  dsimp only [Spn.v]
  go_enter Try.func37, Try.ntmps37
  go_wp2_with (fail)
  go_ret
  exact ⟨_, _, _, rfl, H.out.1, H.out.2, Nat.le_refl _, by omega, by omega⟩

def hasB (cn : Nat) (i : Int) : Bool := decide (0 ≤ i) && decide (i < (cn : Int))
theorem has_raw {w : World} {s cn : Nat} {tb : Option Addr} {tc : Nat} (i : Int) (t0 : w.cell? ⟨s, 0, none⟩ = some (.slice tb cn tc)) :
    Calls Try.prog 35 #[.pointer (some ⟨s, 0, none⟩), .int .i64 i] w fun e w' => e = .returned (.bool (hasB cn i)) ∧ w = w' := by
  by_cases h0 : 0 ≤ i
  · by_cases h1 : i < (cn : Int)
    · have HH := Lib.hid (show hasB cn i = true by simp [hasB, h0, h1])
      have h2 : i ≥ 0 := h0
      go_enter Try.func35, Try.ntmps35
      go_wp2_with fail
      go_ret
      rw [HH.out]
      exact ⟨rfl, rfl⟩
    · have HH := Lib.hid (show hasB cn i = false by simp [hasB, h1])
      have h2 : i ≥ 0 := h0
      go_enter Try.func35, Try.ntmps35
      go_wp2_with fail
      go_ret
      rw [HH.out]
      exact ⟨rfl, rfl⟩
  · have HH := Lib.hid (show hasB cn i = false by simp [hasB, h0])
    have h2 : ¬ (i ≥ 0) := h0
    go_enter Try.func35, Try.ntmps35
    go_wp2_with fail
    go_ret
    rw [HH.out]
    exact ⟨rfl, rfl⟩
end Go.Proofs.Ytcbklkcpjldcjaa

/- The store: what Scan hands back, as an iterator. -/
namespace Go.Proofs.Ytcbklkcpjldcjaa
open Go.ChangeShapes Go.WideShapes Go.ChangeAt Go.RowKit
set_option maxRecDepth 100000
set_option linter.unusedSimpArgs false
attribute [local go_sem] Oper.semAt_some

/-- an owner that is told by what lies below n₀ alone -/
structure OwnerB (n₀ : Nat) (Ow : World → Nat → Prop) : Prop extends Owner n₀ Ow where
  below : ∀ W W', (∀ b, b < n₀ → W'.heap[b]? = W.heap[b]?) → ∀ k, Ow W' k → Ow W k
theorem ownerB_box {n₀ bo : Nat} (h : bo < n₀) : OwnerB n₀ (OwB bo) := ⟨ownerB h, fun _ _ hs _ hk => OwB.same (hs bo h) hk⟩
section
variable {n₀ : Nat} {Ow : World → Nat → Prop} {E : PH} {W W' : World}
/-- what an iterator may read abides the turn of a block that is no cells -/
theorem ItOk.grown (hO : OwnerB n₀ Ow) (h : ItOk n₀ Ow E W) {row : Option Nat} (hg : W.grownBy W' row) (hr : ∀ r, row = some r → n₀ ≤ r ∧ ∃ o : Obj, W.heap[r]? = some o ∧ o.isCells = false) : ItOk n₀ Ow E W' := by
  have hge := h.ge
  have hs : ∀ b, b < n₀ → W'.heap[b]? = W.heap[b]? := fun b hb => hg.block b (by omega) (fun e => by have := (hr b e.symm).1; omega)
  refine ⟨fun b o hb => ?_, fun b o hb => ⟨(h.mine b o hb).1, fun ho => (h.mine b o hb).2 (hO.below W W' hs b ho)⟩, fun k hk => Nat.lt_of_lt_of_le (h.fit k (hO.below W W' hs k hk)) hg.size, Nat.le_trans h.ge hg.size⟩
  have hb2 := h.le b o hb
  refine (hg.block b (lt_of_heap hb2) (fun e => ?_)).trans hb2
  obtain ⟨_, o', ho', hc⟩ := hr b e.symm
  obtain ⟨⟨cs, t, fr, rfl⟩, _⟩ := h.mine b o hb
  have hb3 : W.heap[b]? = some (.cells cs t fr) := hb2
  rw [hb3] at ho'
  cases ho'
  cases hc
open Classical in
/-- all that lies in cells and is nobody else's may be read -/
theorem pool_all (hO : OwnerB n₀ Ow) (hn : n₀ ≤ W.heap.size) (hfit : ∀ k, Ow W k → k < W.heap.size) :
    ∃ E : PH, (∀ k cs t fr, W.heap[k]? = some (.cells cs t fr) → ¬ Ow W k → E k = some (.cells cs t fr)) ∧ ∀ W', Below W.heap.size W W' → ItOk n₀ Ow E W' := by
  refine ⟨fun k => if Ow W k then none else cellsOf (heapOf W) k, fun k cs t fr hk hn => by dsimp only; rw [if_neg hn]; exact cellsOf_eq hk, fun W' hb => ?_⟩
  have hs : ∀ b, b < n₀ → W'.heap[b]? = W.heap[b]? := fun b hlt => hb.block b (by omega)
  refine ⟨fun k o hk => ?_, fun k o hk => ?_, fun k hk => Nat.lt_of_lt_of_le (hfit k (hO.below W W' hs k hk)) hb.size, Nat.le_trans hn hb.size⟩
  · split at hk
    · cases hk
    · have := cellsOf_le _ _ _ hk
      exact (hb.block k (lt_of_heap this)).trans this
  · split at hk
    · cases hk
    · rename_i hno
      exact ⟨cellsOf_cells hk, fun ho => hno (hO.below W W' hs k ho)⟩
theorem PH.le_of (h : ItOk n₀ Ow E W) {E' : PH} (hE : ∀ k cs t fr, W.heap[k]? = some (.cells cs t fr) → ¬ Ow W k → E' k = some (.cells cs t fr)) : PH.le E E' := fun b o hb => by
  obtain ⟨⟨cs, t, fr, rfl⟩, hn⟩ := h.mine b o hb
  exact hE b cs t fr (h.le b _ hb) hn
end

/-- what Scan's function reads where there is the table -/
structure ScanY (E : PH) (pv : Value) (i : Int) (sp : Spn) (F : TabM) (j t pn g og pc : Nat) (T : TM) : Prop where
  num : i = (j : Int)
  pv_ : pv = .slice (some ⟨g, og, none⟩) pn pc
  lt : j < pn
  ptr : ∀ W, PH.le E (heapOf W) → W.cell? ⟨g, og + j, none⟩ = some (.pointer (some ⟨t, 0, none⟩))
  tree : TreeP E t T
  tells : T.Tells sp (tl F)
  rows : ∀ q ∈ F, q.2.row.length ≤ 1000 ∧ ∀ W, PH.le E (heapOf W) → RowRd W q.2.hv q.2.row
theorem ScanY.mono {E E' : PH} {pv : Value} {i : Int} {sp : Spn} {F : TabM} {j t pn g og pc : Nat} {T : TM} (h : ScanY E pv i sp F j t pn g og pc T) (le : PH.le E E') : ScanY E' pv i sp F j t pn g og pc T :=
  ⟨h.num, h.pv_, h.lt, fun W hW => h.ptr W (le.trans hW), h.tree.mono le, h.tells, fun q hq => ⟨(h.rows q hq).1, fun W hW => (h.rows q hq).2 W (le.trans hW)⟩⟩

/-- the loop's own word, round by round -/
structure Scn (n₀ : Nat) (Ow : World → Nat → Prop) (E : PH) (F : TabM) (J : List RowE → World → Prop) (pre : List (Val × VT)) (W : World) : Prop where
  some_ : ∃ xs : List RowE, xs.map RowE.row = toldN F pre.length ∧ J xs W
  it : ItOk n₀ Ow E W

set_option maxHeartbeats 8000000 in
theorem scan1_new {n₀ : Nat} {Ow : World → Nat → Prop} (hO : OwnerB n₀ Ow) {s b1 b2 b3 cn : Nat} {tb : Option Addr} {tc : Nat} {pv u2 u3 u4 : Value} {i : Int} {sp : Spn} {F : TabM} {E : PH} {w : World} (n : Nat)
    (h1 : E b1 = some (.cells #[.pointer (some ⟨s, 0, none⟩)] tSp (0, 0))) (h2 : E b2 = some (.cells #[.int .i64 i] tI (0, 0))) (h3 : E b3 = some (.cells sp.cells tS (0, 0)))
    (hs : E s = some (.cells #[.slice tb cn tc, pv, u2, u3, u4] tSt (0, 0)))
    (hF : (hasB cn i = false ∧ F = []) ∨ (hasB cn i = true ∧ ∃ j t pn g og pc T, ScanY E pv i sp F j t pn g og pc T))
    (hit : ∀ W, Below w.heap.size w W → ItOk n₀ Ow E W) :
    SeqNew Fence.wide n Try.prog 50 #[.pointer (some ⟨b1, 0, none⟩), .pointer (some ⟨b2, 0, none⟩), .pointer (some ⟨b3, 0, none⟩)] (fun x : RowE => #[x.v]) (KpO Ow)
      (fun pre x W0 W => NewRow x W0 W ∧ (pre ++ [x]).map RowE.row <+: toldN F F.length) (fun xs => xs.map RowE.row = toldN F F.length) (fun pre => pre.map RowE.row <+: toldN F F.length) w := by
  intro l J Jx W hW hJ hJx hY h0
  refine callsIn_wide.2 ?_
  have hit0 := hit W hW
  have hk1 : Kept (fun _ => False) W (W.alloc (.cells #[.func (.yield l) #[] #[]] tY)) := (Kept.refl _ _).alloc _
  have hb1 : (W.alloc (.cells #[.func (.yield l) #[] #[]] tY)).heap[W.heap.size]? = some (.cells #[.func (.yield l) #[] #[]] tY (0, 0)) := heap_alloc_self W _
  have HJ1 := Lib.hid (hJ [] W _ none h0 hk1.grown (fun r e => by cases e))
  have HI1 := Lib.hid (hit0.new hO.toOwner hk1 hb1 (Nat.le_refl _))
  have HLE1 := Lib.hid (hit0.with_le (.cells #[.func (.yield l) #[] #[]] tY (0, 0)) (Nat.le_refl _))
  have HB1 := Lib.hid hb1
  have HSZ := Lib.hid (show W.heap.size ≤ (W.alloc (.cells #[.func (.yield l) #[] #[]] tY)).heap.size by rw [World.size_alloc]; omega)
  obtain ⟨p0, pf⟩ := cells1 ((HLE1.out.trans HI1.out.le) _ _ h1)
  obtain ⟨q0, qf⟩ := cells1 ((HLE1.out.trans HI1.out.le) _ _ h2)
  obtain ⟨s0, s1, s2, s3, s4, s5, s6, s7, s8, s9, s10⟩ := Spn.at (s := sp) ((HLE1.out.trans HI1.out.le) _ _ h3)
  obtain ⟨c0, c1, c2, c3, c4, cf⟩ := cells5 ((HLE1.out.trans HI1.out.le) _ _ hs)
  have HHAS := Lib.hid (has_raw i c0)
  rcases hF with ⟨hno, rfl⟩ | ⟨hyes, j, t, pn, g, og, pc, T, hY2⟩
  · have HNO := Lib.hid hno
    clear hno hk1 hb1 hit0 hit hY hJ hJx h0 hW hO h1 h2 h3 hs s0 s1 s2 s3 s4 s5 s6 s7 s8 s9 s10 c0 c1 c2 c3 c4 cf HI1 HLE1 HB1 HSZ
    show Calls _ _ #[.func (.yield l) #[] #[], .pointer (some ⟨b1, 0, none⟩), .pointer (some ⟨b2, 0, none⟩), .pointer (some ⟨b3, 0, none⟩)] _ _
    go_enter Try.func50, Try.ntmps50
    go_wp2_with (go_at_call 35; refine HHAS.out.mono ?_; rw [HNO.out]; rintro e1 w1 ⟨rfl, rfl⟩)
    refine bodyPost_ret (results_none rfl _ _ _) rfl ?_
    exact ⟨⟨_, rfl⟩, .inl ⟨[], rfl, HJ1.out⟩⟩
  · have HYES := Lib.hid hyes
    have HY2 := Lib.hid hY2
    have HY := Lib.hid hY
    have HO := Lib.hid hO
    have HJ := Lib.hid hJ
    have HJX := Lib.hid hJx
    have HN0 := Lib.hid hit0.ge
    have hnum := hY2.num
    have hpv := hY2.pv_
    have hlt := hY2.lt
    subst hnum hpv
    have hlti : (j : Int) < (pn : Int) := by omega
    have hptr := hY2.ptr _ (HLE1.out.trans HI1.out.le)
    clear hyes hY2 hk1 hb1 hit0 hit hY hJ hJx h0 hW hO h1 h2 h3 hs
    show Calls _ _ #[.func (.yield l) #[] #[], .pointer (some ⟨b1, 0, none⟩), .pointer (some ⟨b2, 0, none⟩), .pointer (some ⟨b3, 0, none⟩)] _ _
    refine (callsIn_wide (n := 6)).1 (callsIn_of_wp_marks Try.func50 rfl trivial ?_ rfl)
    simp only [Try.ntmps50, List.size_toArray, List.length_cons, List.length_nil, Nat.reduceAdd, Nat.reduceSub, Array.replicate_succ, Array.replicate_zero, List.push_toArray, List.append_toArray, List.nil_append, List.cons_append]
    refine wpIn_wide.2 ?_
    go_upto_region 1 with fail
    obtain ⟨W1, hW1⟩ : ∃ W1, W1 = W.alloc (.cells #[.func (.yield l) #[] #[]] tY) := ⟨_, rfl⟩
    rw [← hW1] at HJ1 HI1 HB1 HSZ HHAS p0 pf q0 qf s0 s1 s2 s3 s4 s5 s6 s7 s8 s9 s10 c0 c1 c2 c3 c4 cf hptr ⊢
    clear hW1
    generalize hD1 : E.with W.heap.size (.cells #[.func (.yield l) #[] #[]] tY (0, 0)) = D1 at HI1 HLE1
    have HD4 := Lib.hid (show D1 W.heap.size = some (.cells #[.func (.yield l) #[] #[]] tY (0, 0)) by rw [← hD1]; exact PH.with_self _ _ _)
    clear hD1
    generalize hb4 : W.heap.size = b4 at HB1 HD4 HSZ HJ HJX HY ⊢
    have HBW := Lib.hid hb4
    clear hb4
    go_upto_region 2 with (go_at_call 35; refine HHAS.out.mono ?_; rw [HYES.out]; rintro e1 w1 ⟨rfl, rfl⟩)
    refine wp_region_canon [(0, false, 8), (1, false, 8), (2, false, 8), (3, false, 8), (4, false, 8), (5, false, 8), (6, false, 8), (7, false, 8), (8, true, 0)] (by kernel_rfl) (by kernel_rfl) ?_
    iterate 8 (refine wpCan_read rfl rfl (fun K hK => ?_); go_simp; refine hK _ ?_; clear hK K)
    refine wpCan_eff rfl ?_
    refine wpList_do rfl (fun K hK => ?_)
    go_simp
    refine (range_ok (some ⟨t, 0, none⟩) sp W1.drew).mono ?_
    rintro e2 w2 ⟨r1, r2, rfl, hk2, hr1, hr2, hn1, hn2⟩
    have hk2' : Kept (fun _ => False) W1 w2 := ((Kept.refl _ W1).drew).trans hk2 (fun _ h => h.elim)
    have hi2 := HI1.out.kept HO.out.toOwner hk2'
    have hj2 := HJ.out [] W1 w2 none HJ1.out hk2'.grown (fun r e => by cases e)
    obtain ⟨E2, hE2, hit2⟩ := pool_all HO.out hi2.ge hi2.fit
    have hle2 := PH.le_of hi2 hE2
    have hno2 : ∀ k, W1.heap.size ≤ k → ¬ Ow w2 k := fun k hk ho => by have := HI1.out.fit k (HO.out.stay W1 w2 HI1.out.ge hk2' k ho); omega
    have hc1 := hE2 r1 _ _ _ hr1 (hno2 r1 hn1)
    have hc2 := hE2 r2 _ _ _ hr2 (hno2 r2 hn2)
    have HI2 := Lib.hid hi2
    have HJ2 := Lib.hid hj2
    have HIT2 := Lib.hid hit2
    have HC1 := Lib.hid hc1
    have HC2 := Lib.hid hc2
    have HE4 := Lib.hid (hle2 _ _ HD4.out)
    have HY3 := Lib.hid (HY2.out.mono (HLE1.out.trans hle2))
    have HBZ := Lib.hid (show b4 ≤ w2.heap.size from Nat.le_trans HSZ.out hk2'.size)
    clear hk2 hk2' hr1 hr2 hn1 hn2 hi2 hj2 hE2 hit2 hle2 hno2 hc1 hc2 p0 pf q0 qf s0 s1 s2 s3 s4 s5 s6 s7 s8 s9 s10 c0 c1 c2 c3 c4 cf hptr
    refine hK _ _ ?_
    clear hK K
    refine wpList_nil ?_
    refine And.intro ?_ ?_
    · go_simp
    refine wpCan_nil ?_
    go_wp2_with fail
    refine (wpIn_wide (n := 5)).1 ?_
    refine wpIn_rangeFunc_new (n := 5) rfl (by omega) (gf := 65) (lb := #[.pointer (some ⟨r1, 0, none⟩), .pointer (some ⟨r2, 0, none⟩)]) rfl trivial (enters_of Try.func65 (by kernel_rfl) rfl)
      (range_new (T := T) (s := sp) (q := tl F) (t := t) (D := E2) HO.out.toOwner 4 HY3.out.tree HY3.out.tells HC1.out HC2.out HIT2.out)
      (fun h k => KpO.trans h k) (fun W l o o' hl h hc _ => KpO.put HO.out.toOwner (Nat.le_trans HN0.out (by have := HBZ.out; have := HBW.out; omega)) h hc) (Below.refl _ _) (fun _ => rfl)
      (Scn n₀ Ow E2 F J) (fun p W => Scn n₀ Ow E2 F J p.1 W ∧ p.1 ++ [p.2] <+: tl F) (fun c _ W => c = .ret ∧ ∃ xs : List RowE, xs.map RowE.row <+: toldN F F.length ∧ Jx xs W) ?hI ?hIm ?hIx ?h0 ?hnew
      (fun (x : Val × VT) (a' : Act) (W : World) => ∃ b6 : Nat, W.heap[b6]? = some (.cells #[.bool x.2.kept, .int .i64 x.2.num, .slice x.2.ro x.2.rn x.2.rc] tW (0, 0)) ∧ a' = { tmps := #[.func (.yield l) #[] #[], .pointer (some ⟨b1, 0, none⟩), .pointer (some ⟨b2, 0, none⟩), .pointer (some ⟨b3, 0, none⟩), .pointer (some ⟨b4, 0, none⟩), undef, .pointer (some ⟨b6, 0, none⟩), .pointer (some ⟨s, 0, none⟩), .int .i64 j, .bool true, .bool false, .pointer (some ⟨s, 0, none⟩), .pointer (some ⟨s, 0, none⟩), .pointer (some ⟨s, 1, none⟩), .slice (some ⟨g, og, none⟩) pn pc, .int .i64 j, .pointer (some ⟨g, og + j, none⟩), .pointer (some ⟨t, 0, none⟩), sp.v, rngV r1 r2, x.1.v, x.2.v, undef, undef, undef, undef, undef, undef, undef, undef, undef, undef, undef, undef], defers := [] }) (fun x a' _ W W' row ⟨bk, h1, h2⟩ hg hr => ⟨bk, box_ownFrom h1 hg hr, h2⟩) ?assign ?body ?done ?stop
    case hI =>
      rintro pre X Y row ⟨⟨xs, h1, h2⟩, h3⟩ hg hr
      have hr' : ∀ r, row = some r → b4 ≤ r ∧ ∃ o : Obj, X.heap[r]? = some o ∧ o.isCells = false := fun r e => ⟨Nat.le_trans HBZ.out (hr r e).1, (hr r e).2⟩
      exact ⟨⟨xs, h1, HJ.out xs X Y row h2 hg hr'⟩, h3.grown HO.out hg (fun r e => ⟨by have := (hr' r e).1; have := HBW.out; have := HN0.out; omega, (hr r e).2⟩)⟩
    case hIm =>
      rintro ⟨pre, x⟩ X Y row ⟨⟨⟨xs, h1, h2⟩, h3⟩, h4⟩ hg hr
      have hr' : ∀ r, row = some r → b4 ≤ r ∧ ∃ o : Obj, X.heap[r]? = some o ∧ o.isCells = false := fun r e => ⟨Nat.le_trans HBZ.out (hr r e).1, (hr r e).2⟩
      exact ⟨⟨⟨xs, h1, HJ.out xs X Y row h2 hg hr'⟩, h3.grown HO.out hg (fun r e => ⟨by have := (hr' r e).1; have := HBW.out; have := HN0.out; omega, (hr r e).2⟩)⟩, h4⟩
    case hIx =>
      rintro c pre X Y row ⟨h1, xs, h2, h3⟩ hg hr
      exact ⟨h1, xs, h2, HJX.out xs X Y row h3 hg (fun r e => ⟨Nat.le_trans HBZ.out (hr r e).1, (hr r e).2⟩)⟩
    case h0 => exact ⟨⟨[], rfl, HJ2.out⟩, HIT2.out _ (Below.refl _ _)⟩
    case hnew =>
      rintro pre x X Y ⟨⟨xs, h1, h2⟩, h3⟩ hk hX
      exact ⟨⟨⟨xs, h1, HJ.out xs X Y none h2 hk.grown (fun r e => by cases e)⟩, h3.kept HO.out.toOwner hk⟩, hX⟩
    case assign =>
      rintro l2 pre x X K ⟨hi, hx⟩ hK
      have hal : Kept (fun _ => False) X (X.alloc (.cells #[.bool x.2.kept, .int .i64 x.2.num, .slice x.2.ro x.2.rn x.2.rc] tW)) := (Kept.refl _ _).alloc _
      have hge := hi.it.ge
      have hi' : Scn n₀ Ow E2 F J pre (X.alloc (.cells #[.bool x.2.kept, .int .i64 x.2.num, .slice x.2.ro x.2.rn x.2.rc] tW)) := by
        obtain ⟨⟨xs, h1, h2⟩, h3⟩ := hi
        exact ⟨⟨xs, h1, HJ.out xs X _ none h2 hal.grown (fun r e => by cases e)⟩, h3.kept HO.out.toOwner hal⟩
      have H := Lib.hid (hK _ _ (keepsFrom_kept hal _) (KpO.of_kept HO.out.toOwner hge hal) ⟨hi', hx⟩ ⟨X.heap.size, heap_alloc_self _ _, rfl⟩)
      clear hK hi hi' hx
      gi_wp2
      exact H.out
    case body =>
      rintro l2 pre x a' X hl2 - ⟨⟨⟨xs, hxs, hj⟩, hitx⟩, hpx⟩ ⟨b6, hb6, rfl⟩
      obtain ⟨q, hq, rfl⟩ : ∃ q : Val × PlM, F[pre.length]? = some q ∧ x = (q.1, q.2.s) := by
        obtain ⟨z, hz⟩ := hpx
        have h1 : (tl F)[pre.length]? = some x := by rw [← hz]; simp
        unfold tl at h1
        rw [List.getElem?_map] at h1
        cases h2 : F[pre.length]? with
        | none => rw [h2] at h1; cases h1
        | some q => rw [h2] at h1; cases h1; exact ⟨q, rfl, rfl⟩
      have hsuc := toldN_succ hq
      have hlq := (List.getElem?_eq_some_iff.1 hq).1
      obtain ⟨hrl, hrd⟩ := HY3.out.rows q (List.mem_of_getElem? hq)
      obtain ⟨y0, y1, y2, yf⟩ := cells3 hb6
      obtain ⟨z0, zf⟩ := cells1 (hitx.le _ _ HE4.out)
      have HRD := Lib.hid (hrd X.drew hitx.le)
      have HXS := Lib.hid hxs
      have HJX2 := Lib.hid hj
      have HITX := Lib.hid hitx
      have HB6 := Lib.hid hb6
      have HSUC := Lib.hid hsuc
      have HLQ := Lib.hid hlq
      clear hxs hj hitx hpx hb6 hq hsuc hlq hrd
      dsimp only [PlM.s, SlotT.v, Spn.v, Val.v] at y0 y1 y2 HB6 ⊢
      gi_wp2
      obtain ⟨k, ⟨kept, num, row, ro, rn, rc⟩⟩ := q
      dsimp only [PlM.hv] at hrl y0 y1 y2 HRD HB6 HSUC ⊢
      cases kept
      · have hsu := HSUC.out
        rw [if_neg (by simp)] at hsu
        refine wpRd_region_canon [(0, false, 8), (1, false, 8), (2, false, 8), (3, false, 8), (4, false, 8), (5, false, 9), (6, false, 8), (7, false, 8), (8, true, 0), (9, true, 0), (10, false, 999), (11, false, 999)] (by kernel_rfl) (by kernel_rfl) (by kernel_rfl) ?_
        iterate 5 (refine wpCanR_read rfl rfl (fun K hK => ?_); go_simp; refine hK _ ?_; clear hK K)
        first | (refine wpCanR_no rfl rfl ?_; simp only [Act.put, List.setIfInBounds_toArray, List.set_cons_succ, List.set_cons_zero, List.getElem_toArray, List.getElem_cons_succ, List.getElem_cons_zero]) | (refine wpCanR_yes rfl rfl (fun K hK => ?_); go_simp; refine hK _ ?_; clear hK K)
        first | (refine wpCanR_no rfl rfl ?_; simp only [Act.put, List.setIfInBounds_toArray, List.set_cons_succ, List.set_cons_zero, List.getElem_toArray, List.getElem_cons_succ, List.getElem_cons_zero]) | (refine wpCanR_yes rfl rfl (fun K hK => ?_); go_simp; refine hK _ ?_; clear hK K)
        first | (refine wpCanR_no rfl rfl ?_; simp only [Act.put, List.setIfInBounds_toArray, List.set_cons_succ, List.set_cons_zero, List.getElem_toArray, List.getElem_cons_succ, List.getElem_cons_zero]) | (refine wpCanR_yes rfl rfl (fun K hK => ?_); go_simp; refine hK _ ?_; clear hK K)
        refine wpCanR_eff rfl ?_
        refine wpListRd_do rfl (fun K hK => ?_)
        go_simp
        refine ⟨trivial, CallsIn.inRound l2 (callsIn_wide.2 ((rclone_new HRD.out hrl).mono ?_))⟩
        rintro e4 w4 ⟨v4, rfl, hk4, ho4, hf4⟩
        obtain ⟨a4, c4, rfl⟩ : ∃ a4 c4, v4 = .slice a4 row.length c4 := by obtain ⟨_, _, h, _⟩ := ho4.rd.2.2; exact ⟨_, _, h⟩
        have hkx : Kept (fun _ => False) X w4 := ((Kept.refl _ X).drew).trans hk4 (fun _ h => h.elim)
        have hjd := HJ.out xs X X.drew none HJX2.out ((Kept.refl _ X).drew).grown (fun r e => by cases e)
        have hpre : (xs ++ [(⟨row, a4, row.length, c4⟩ : RowE)]).map RowE.row <+: toldN F F.length := by
          rw [List.map_append, HXS.out]
          show toldN F pre.length ++ [row] <+: _
          rw [← hsu]
          exact toldN_le HLQ.out
        obtain ⟨fn, tm, asg, bd, hy, hR⟩ := HY.out xs (⟨row, a4, row.length, c4⟩ : RowE) X.drew w4 hjd hk4 ⟨⟨ho4, hf4⟩, hpre⟩
        dsimp only [RowE.v] at hy hR
        have HIT4 := Lib.hid (HITX.out.kept HO.out.toOwner hkx)
        have HKX := Lib.hid hkx
        have HSU := Lib.hid hsu
        have HR := Lib.hid hR
        have HPRE := Lib.hid hpre
        clear hk4 ho4 hf4 hjd hpre hR hsu y0 y1 y2 yf z0 zf hkx
        obtain ⟨y0, y1, y2, yf⟩ := cells3 ((HKX.out.block _ (lt_of_heap HB6.out) (fun h => h)).trans HB6.out)
        obtain ⟨z0, zf⟩ := cells1 (HIT4.out.le _ _ HE4.out)
        refine hK _ _ ?_
        clear hK K
        refine wpListIn_nil ?_
        refine And.intro ?_ ?_
        · go_simp
        refine wpCanR_eff rfl ?_
        refine wpListRd_do rfl (fun K hK => ?_)
        go_simp
        refine Proofs.Ytcbklkcpjldcjaa.RoundIn.anyDepth rfl (HR.out.mono ?_)
        rintro e5 w5 ⟨hkf, h5⟩
        have hkf2 : KeepsFrom w2.heap.size X w5 := (keepsFrom_kept HKX.out _).trans (keepsFrom_le hkf HBZ.out)
        obtain ⟨bb, rfl, hyes, hno⟩ : ∃ bb, e5 = .returned (.bool bb) ∧ (bb = true → J (xs ++ [(⟨row, a4, row.length, c4⟩ : RowE)]) w5 ∧ KpO Ow w4 w5) ∧ (bb = false → Jx (xs ++ [(⟨row, a4, row.length, c4⟩ : RowE)]) w5) := by
          rcases h5 with ⟨rfl, a, b⟩ | ⟨rfl, a⟩
          · exact ⟨true, rfl, fun _ => ⟨a, b⟩, fun h => (by cases h)⟩
          · exact ⟨false, rfl, fun h => (by cases h), fun _ => a⟩
        have HYES := Lib.hid hyes
        have HNO := Lib.hid hno
        have HKF := Lib.hid hkf2
        clear hyes hno h5 hy HR hkf hkf2 y0 y1 y2 yf z0 zf
        refine hK _ _ ?_
        clear hK K
        refine wpListIn_nil ?_
        refine And.intro ?_ ?_
        · go_simp
        first | (refine wpCanR_no rfl rfl ?_; simp only [Act.put, List.setIfInBounds_toArray, List.set_cons_succ, List.set_cons_zero, List.getElem_toArray, List.getElem_cons_succ, List.getElem_cons_zero]) | (refine wpCanR_yes rfl rfl (fun K hK => ?_); go_simp; refine hK _ ?_; clear hK K)
        iterate 1 (refine wpCanR_read rfl rfl (fun K hK => ?_); go_simp; refine hK _ ?_; clear hK K)
        refine wpCanR_nil ?_
        cases bb
        · gi_wp2
          exact ⟨HKF.out, rfl, _, HPRE.out, HNO.out (by trivial)⟩
        · gi_wp2
          refine ⟨HKF.out, (KpO.of_kept HO.out.toOwner HITX.out.ge HKX.out).trans (HYES.out (by trivial)).2, ⟨⟨_, ?_, (HYES.out (by trivial)).1⟩, HIT4.out.kp (HYES.out (by trivial)).2⟩⟩
          rw [List.map_append, HXS.out, List.length_append, List.length_singleton, HSU.out]
          rfl
      · have hsu := HSUC.out
        rw [if_pos rfl, List.append_nil] at hsu
        have hjd := HJ.out xs X X.drew none HJX2.out ((Kept.refl _ X).drew).grown (fun r e => by cases e)
        have HFIN := Lib.hid (show KeepsFrom w2.heap.size X X.drew ∧ KpO Ow X X.drew ∧ Scn n₀ Ow E2 F J (pre ++ [(k, (⟨true, num, row, ro, rn, rc⟩ : PlM).s)]) X.drew from ⟨keepsFrom_kept ((Kept.refl _ X).drew) _, KpO.of_kept HO.out.toOwner HITX.out.ge ((Kept.refl _ X).drew), ⟨⟨xs, by rw [HXS.out, List.length_append, List.length_singleton, hsu], hjd⟩, HITX.out.kept HO.out.toOwner ((Kept.refl _ X).drew)⟩⟩)
        clear hsu hjd
        refine wpRd_region_canon [(0, false, 8), (1, false, 8), (2, false, 8), (3, false, 8), (4, false, 8), (5, false, 9), (6, false, 8), (7, false, 8), (8, true, 0), (9, true, 0), (10, false, 999), (11, false, 999)] (by kernel_rfl) (by kernel_rfl) (by kernel_rfl) ?_
        iterate 5 (refine wpCanR_read rfl rfl (fun K hK => ?_); go_simp; refine hK _ ?_; clear hK K)
        first | (refine wpCanR_no rfl rfl ?_; simp only [Act.put, List.setIfInBounds_toArray, List.set_cons_succ, List.set_cons_zero, List.getElem_toArray, List.getElem_cons_succ, List.getElem_cons_zero]) | (refine wpCanR_yes rfl rfl (fun K hK => ?_); go_simp; refine hK _ ?_; clear hK K)
        first | (refine wpCanR_no rfl rfl ?_; simp only [Act.put, List.setIfInBounds_toArray, List.set_cons_succ, List.set_cons_zero, List.getElem_toArray, List.getElem_cons_succ, List.getElem_cons_zero]) | (refine wpCanR_yes rfl rfl (fun K hK => ?_); go_simp; refine hK _ ?_; clear hK K)
        first | (refine wpCanR_no rfl rfl ?_; simp only [Act.put, List.setIfInBounds_toArray, List.set_cons_succ, List.set_cons_zero, List.getElem_toArray, List.getElem_cons_succ, List.getElem_cons_zero]) | (refine wpCanR_yes rfl rfl (fun K hK => ?_); go_simp; refine hK _ ?_; clear hK K)
        refine wpCanR_eff rfl ?_
        refine wpListRd_not rfl ?_
        simp only [Act.put, List.setIfInBounds_toArray, List.set_cons_succ, List.set_cons_zero]
        refine wpListIn_nil ?_
        refine And.intro ?_ ?_
        · go_simp
        refine wpCanR_eff rfl ?_
        refine wpListRd_not rfl ?_
        simp only [Act.put, List.setIfInBounds_toArray, List.set_cons_succ, List.set_cons_zero]
        refine wpListIn_nil ?_
        refine And.intro ?_ ?_
        · go_simp
        first | (refine wpCanR_no rfl rfl ?_; simp only [Act.put, List.setIfInBounds_toArray, List.set_cons_succ, List.set_cons_zero, List.getElem_toArray, List.getElem_cons_succ, List.getElem_cons_zero]) | (refine wpCanR_yes rfl rfl (fun K hK => ?_); go_simp; refine hK _ ?_; clear hK K)
        iterate 1 (refine wpCanR_read rfl rfl (fun K hK => ?_); go_simp; refine hK _ ?_; clear hK K)
        refine wpCanR_nil ?_
        gi_wp2
        exact HFIN.out
    case done =>
      rintro D1 pre X hD rfl ⟨⟨xs, hxs, hj⟩, hitx⟩ hK
      have hj2 := HJ.out xs X (X.putObj D1 (.deferred none)) (some D1) hj (grownBy_putObj' X D1 _) (fun r e => by cases e; exact ⟨Nat.le_trans HBZ.out hD, _, hK, rfl⟩)
      have hlen : (tl F).length = F.length := tl_len F
      rw [hlen] at hxs
      have HF := Lib.hid (And.intro hxs hj2)
      clear hxs hj hj2 hitx
      go_wp2_with (fail)
      refine ⟨by simp, .inl ⟨_, _, rfl, run_takeDeferred hK, ?_⟩⟩
      exact ⟨_, results_none rfl _ _ _, ⟨_, rfl⟩, .inl ⟨xs, HF.out.1, HF.out.2⟩⟩
    case stop =>
      rintro D1 c pre X hD - ⟨rfl, xs, hxs, hj⟩ hK
      have hj2 := HJX.out xs X (X.putObj D1 (.deferred none)) (some D1) hj (grownBy_putObj' X D1 _) (fun r e => by cases e; exact ⟨Nat.le_trans HBZ.out hD, _, hK, rfl⟩)
      have HF := Lib.hid (And.intro hxs hj2)
      clear hxs hj hj2
      gi_wp2
      refine ⟨by simp, .inl ⟨_, _, rfl, run_takeDeferred hK, ?_⟩⟩
      exact ⟨_, results_none rfl _ _ _, ⟨_, rfl⟩, .inr ⟨xs, HF.out.1, HF.out.2⟩⟩
end Go.Proofs.Ytcbklkcpjldcjaa
