/- Of no program: a region that draws its order may be walked in ONE order: what only reads comes first, and is asked again behind each operation that turns the world, until one comes that waits for it. -/
import Derived.Test.YtjijemeabfiipaaKit
import Derived.StillTactics
import Derived.StillTail
import Derived.Deep.RegionHeld3
namespace Go.Proofs.Ytjijemeabfiipaa
open Go.ChangeShapes Go.WideShapes Go.ChangeAt Go.RowKit

section
variable {P : Program} {ops : Array Oper} {Q : Exit → Act → World → Prop}

/-- an operation that was carried out in state a and came to b, and leaves the world alone; asked until operation k has come -/
structure Pend where
  o : Oper
  a : Act
  b : Act
  k : Nat

def Pend.ok (P : Program) (ops : Array Oper) (x : Pend) (w : World) : Prop :=
  if Region.wanted x.o (yielded ops x.a.tmps) then x.o.still P x.a w (fun b => b = x.b) else True

def allOk (P : Program) (ops : Array Oper) (i : Nat) : List Pend → World → Prop
  | [], _ => True
  | x :: l, w => if x.k = i then allOk P ops i l w else x.ok P ops w ∧ allOk P ops i l w

def keepPend (i : Nat) : List Pend → List Pend
  | [] => []
  | x :: l => if x.k = i then keepPend i l else x :: keepPend i l

def effQ (Q : Exit → Act → World → Prop) (R : Act → World → Prop) : Exit → Act → World → Prop
  | .normal, a, w => R a w
  | .outgrown, a, w => Q .outgrown a w
  | _, _, _ => False

def wpCan (P : Program) (ops : Array Oper) (Q : Exit → Act → World → Prop) : List (Nat × Bool × Nat) → List Pend → Act → World → Prop
  | [], _, a, w => Q .normal a w
  | (i, e, k) :: rest, pend, a, w => ∃ o, ops[i]? = some o ∧
    match e with
    | false => if Region.wanted o (yielded ops a.tmps) then o.still P a w (fun b => wpCan P ops Q rest (⟨o, a, b, k⟩ :: pend) b w) else wpCan P ops Q rest (⟨o, a, a, k⟩ :: pend) (a.put o.dst undef) w
    | true => wpList P ops (effQ Q fun b w' => allOk P ops i pend w' ∧ wpCan P ops Q rest (keepPend i pend) b w') [o] a w

attribute [go_sem] allOk keepPend Pend.ok

theorem wpCan_nil {pend : List Pend} {a : Act} {w : World} (h : Q .normal a w) : wpCan P ops Q [] pend a w := h

theorem wpCan_eff {i k : Nat} {rest : List (Nat × Bool × Nat)} {pend : List Pend} {a : Act} {w : World} {o : Oper} (ho : ops[i]? = some o)
    (h : wpList P ops (effQ Q fun b w' => allOk P ops i pend w' ∧ wpCan P ops Q rest (keepPend i pend) b w') [o] a w) : wpCan P ops Q ((i, true, k) :: rest) pend a w :=
  ⟨o, ho, h⟩

/-- one that is carried out and only reads -/
theorem wpCan_read {i k : Nat} {rest : List (Nat × Bool × Nat)} {pend : List Pend} {a : Act} {w : World} {o : Oper} (ho : ops[i]? = some o) (hg : o.guard = none)
    (h : ∀ K : Act → Prop, (∀ b, wpCan P ops Q rest (⟨o, a, b, k⟩ :: pend) b w → K b) → o.still P a w K) : wpCan P ops Q ((i, false, k) :: rest) pend a w := by
  refine ⟨o, ho, ?_⟩
  dsimp only
  rw [if_pos (by simp [Region.wanted, hg])]
  exact h _ (fun _ h => h)
/-- one with a guard that says yes -/
theorem wpCan_yes {i k : Nat} {rest : List (Nat × Bool × Nat)} {pend : List Pend} {a : Act} {w : World} {o : Oper} (ho : ops[i]? = some o) (hg : Region.wanted o (yielded ops a.tmps) = true)
    (h : ∀ K : Act → Prop, (∀ b, wpCan P ops Q rest (⟨o, a, b, k⟩ :: pend) b w → K b) → o.still P a w K) : wpCan P ops Q ((i, false, k) :: rest) pend a w := by
  refine ⟨o, ho, ?_⟩
  dsimp only
  rw [if_pos hg]
  exact h _ (fun _ h => h)
/-- one with a guard that says no -/
theorem wpCan_no {i k : Nat} {rest : List (Nat × Bool × Nat)} {pend : List Pend} {a : Act} {w : World} {o : Oper} (ho : ops[i]? = some o) (hg : Region.wanted o (yielded ops a.tmps) = false)
    (h : wpCan P ops Q rest (⟨o, a, a, k⟩ :: pend) (a.put o.dst undef) w) : wpCan P ops Q ((i, false, k) :: rest) pend a w := by
  refine ⟨o, ho, ?_⟩
  dsimp only
  rw [if_neg (by simp [hg])]
  exact h

/-! ### that it is so for every order -/

def waits (ops : Array Oper) : Nat → Nat → Nat → Bool
  | 0, _, _ => false
  | n + 1, k, i => match ops[k]? with
    | none => false
    | some o => o.after.any fun e => Region.binds .any e && (e.on == i || waits ops n e.on i)

def ClosedL (ops : Array Oper) (listed : Array Bool) : Prop :=
  ∀ j o, ops[j]? = some o → listed.getD j false = true → ∀ e ∈ o.after, Region.binds .any e = true → listed.getD e.on false = true

theorem waits_listed {listed : Array Bool} (hc : ClosedL ops listed) : ∀ (n k i : Nat), waits ops n k i = true → listed.getD k false = true → listed.getD i false = true
  | 0, _, _, h, _ => by simp [waits] at h
  | n + 1, k, i, h, hk => by
    unfold waits at h
    split at h
    · cases h
    · rename_i o ho
      obtain ⟨e, he, hb⟩ := Array.any_eq_true'.1 h
      simp only [Bool.and_eq_true, Bool.or_eq_true, beq_iff_eq] at hb
      have h1 := hc k o ho hk e he hb.1
      rcases hb.2 with h2 | h2
      · rw [h2] at h1; exact h1
      · exact waits_listed hc n e.on i h2 h1

theorem ClosedL.set {listed : Array Bool} {i : Nat} (hc : ClosedL ops listed) (hi : i ∈ Region.ready .any ops listed) : ClosedL ops (listed.setIfInBounds i true) := by
  obtain ⟨_, oi, hoi, hall⟩ := mem_ready.1 hi
  intro j oj hj hl e he hb
  by_cases hij : i = j
  · subst hij
    have : oj = oi := Option.some.inj (hj.symm.trans hoi)
    subst this
    exact getD_set_true (hall e he hb)
  · rw [getD_set_ne false hij] at hl
    exact getD_set_true (hc j oj hj hl e he hb)

def wpAnyE (P : Program) (ops : Array Oper) (Q : Exit → Act → World → Prop) (S : Array Bool → World → Prop) : Nat → Array Bool → Act → World → Prop
  | 0, listed, a, w => Region.ready .any ops listed = [] ∧ Q .normal a w
  | fuel + 1, listed, a, w =>
    (Region.ready .any ops listed = [] → Q .normal a w) ∧
    ∀ i ∈ Region.ready .any ops listed, wpOp P ops Q i (fun a' w' => S (listed.setIfInBounds i true) w' ∧ wpAnyE P ops Q S fuel (listed.setIfInBounds i true) a' w') a w

theorem wpAny_of_E {S : Array Bool → World → Prop} : ∀ (fuel : Nat) (listed : Array Bool) (a : Act) (w : World), wpAnyE P ops Q S fuel listed a w → wpAny P .any ops Q fuel listed a w
  | 0, _, _, _, h => h
  | fuel + 1, _, _, _, h => ⟨h.1, fun i hi => wpOp_mono (fun a' w' h' => wpAny_of_E fuel _ a' w' h'.2) (h.2 i hi)⟩

theorem wpAnyE_mono {S S' : Array Bool → World → Prop} {G : Array Bool → Prop} (hG : ∀ l i, G l → G (l.setIfInBounds i true)) (hS : ∀ l w, G l → S l w → S' l w) :
    ∀ (fuel : Nat) (listed : Array Bool) (a : Act) (w : World), G listed → wpAnyE P ops Q S fuel listed a w → wpAnyE P ops Q S' fuel listed a w
  | 0, _, _, _, _, h => h
  | fuel + 1, listed, _, _, hl, h => ⟨h.1, fun i hi => wpOp_mono (fun a' w' h' => ⟨hS _ _ (hG listed i hl) h'.1, wpAnyE_mono hG hS fuel _ a' w' (hG listed i hl) h'.2⟩) (h.2 i hi)⟩

/-- for operation o the state a is as a0 was -/
def AsAt (ops : Array Oper) (o : Oper) (a0 a : Act) : Prop :=
  execOp a.eval o = execOp a0.eval o ∧ Region.wanted o (yielded ops a.tmps) = Region.wanted o (yielded ops a0.tmps) ∧ a.tmps.size = a0.tmps.size

theorem size_put (a : Act) (d : Option Tmp) (v : Value) : (a.put d v).tmps.size = a.tmps.size := by
  cases d <;> simp [Act.put]

theorem AsAt.put {o : Oper} {a0 a : Act} (h : AsAt ops o a0 a) (hs : ∀ cs b, o.op ≠ .select cs b) (d : Option Tmp) (v : Value) (hd : ∀ t, d = some t → t ∉ o.looksAt ops) : AsAt ops o a0 (a.put d v) :=
  ⟨(execOp_put o hs a d v hd).trans h.1, (wanted_put o a d v hd).trans h.2.1, (size_put a d v).trans h.2.2⟩

theorem wpOp_putE {j : Nat} {oi oj : Oper} {v : Value} {a0 : Act} (hj : ops[j]? = some oj) (hap : oi.apart ops oj = true)
    (hsi : ∀ cs b, oi.op ≠ .select cs b) (hsj : ∀ cs b, oj.op ≠ .select cs b)
    (hQ : ∀ c a w, Q (.panic c) (a.put oi.dst v) w → Q (.panic c) a w) {K : Act → World → Prop} {a : Act} {w : World}
    (hy : AsAt ops oi a0 a) (h : wpOp P ops Q j K (a.put oi.dst v) w) :
    wpOp P ops Q j (fun a' w' => AsAt ops oi a0 a' ∧ K (a'.put oi.dst v) w') a w := by
  obtain ⟨h1, h2, h3⟩ := Oper.apart_spec hap
  have keep : ∀ (a : Act), AsAt ops oi a0 a → ∀ u, AsAt ops oi a0 (a.put oj.dst u) := fun a hy u => hy.put hsi oj.dst u h3
  have keepD : ∀ d, AsAt ops oi a0 { a with defers := d :: a.defers } := fun d => ⟨hy.1, hy.2.1, hy.2.2⟩
  unfold wpOp at *
  simp only [hj] at *
  rw [wanted_put oj a oi.dst v h1] at h
  split
  · rename_i hw
    simp only [hw, if_true] at h
    rcases h with h | ⟨hasks, hlets⟩
    case inr => exact .inr ⟨by unfold Oper.asks at *; rw [execOp_put oj hsj a oi.dst v h1] at hasks; exact hasks, hlets⟩
    refine .inl ?_
    unfold Oper.wp at *
    rw [execOp_put oj hsj a oi.dst v h1] at h
    generalize (execOp a.eval oj).run P w = r at *
    cases r with
    | ok n w' =>
      cases n <;> simp only [Oper.upon] at h ⊢
      case value u => exact ⟨keep a hy u, by rw [← Act.put_comm a v u h2]; exact h⟩
      case skip => exact ⟨keep a hy _, by rw [← Act.put_comm a v undef h2]; exact h⟩
      case defer d =>
        refine ⟨keep _ (keepD d) _, ?_⟩
        rw [← Act.put_comm _ v undef h2, ← Act.put_defers]
        exact h
      case enter f args =>
        refine Calls.mono h fun e w'' he => ?_
        cases e with
        | returned u => exact ⟨keep a hy u, by rw [← Act.put_comm a v u h2]; exact he⟩
        | panicked c => exact hQ _ _ _ he
        | outgrown => exact he
      case row row args => exact Rows.mono h fun u w'' he => ⟨keep a hy u, by rw [← Act.put_comm a v u h2]; exact he⟩
    | halt x w' =>
      cases x <;> simp only [Oper.upon] at h ⊢
      case panic u => exact hQ _ _ _ h
  · rename_i hw
    simp only [hw] at h
    exact ⟨keep a hy _, by rw [← Act.put_comm a v undef h2]; exact h⟩

def SP (P : Program) (ops : Array Oper) (pend : List Pend) (listed : Array Bool) (w : World) : Prop :=
  ∀ x ∈ pend, listed.getD x.k false = false → x.ok P ops w

theorem stOp_of {i : Nat} {o : Oper} {a : Act} {K : Act → Prop} {w : World} (hi : ops[i]? = some o)
    (h : if Region.wanted o (yielded ops a.tmps) then o.still P a w K else K (a.put o.dst undef)) : stOp P ops w i K a := by
  unfold stOp
  simp only [hi]
  exact h

/-- the value that o leaves in state a0 stands for whatever state that is as a0 -/
theorem YieldsAt.asAt {o : Oper} {v : Value} {a0 a : Act} {w : World} (hy : YieldsAt P ops w o v a0) (h : AsAt ops o a0 a) : YieldsAt P ops w o v a := hy.of_same h.1 h.2.1

theorem put_same {a0 a : Act} {d : Option Tmp} {v v' : Value} (hs : a.tmps.size = a0.tmps.size) (h : a0.put d v' = a0.put d v) : a.put d v' = a.put d v := by
  cases d with
  | none => rfl
  | some d =>
    simp only [Act.put, Act.mk.injEq, and_true] at h ⊢
    rcases Nat.lt_or_ge d a0.tmps.size with hd | hd
    · have e := congrArg (fun t => t[d]?) h
      simp [hd] at e
      rw [e]
    · have h1 : a.tmps.size ≤ d := by omega
      rw [Array.setIfInBounds_eq_of_size_le h1, Array.setIfInBounds_eq_of_size_le h1]

theorem take_E {i k : Nat} {oi : Oper} {v : Value} {a0 b0 : Act} {pend : List Pend} (hi : ops[i]? = some oi) (hsel : ∀ (j : Nat) (o : Oper) cs b, ops[j]? = some o → o.op ≠ .select cs b)
    (hb0 : Region.wanted oi (yielded ops a0.tmps) = true → b0 = a0.put oi.dst v) (hv : Region.wanted oi (yielded ops a0.tmps) = false → v = undef)
    (hk : k ≠ i) (hpk : ∀ x ∈ pend, x.k ≠ i) (hw : k < ops.size → ∃ n, waits ops n k i = true)
    (hQ : ∀ c a w, Q (.panic c) (a.put oi.dst v) w → Q (.panic c) a w) :
    ∀ (fuel : Nat) (listed : Array Bool) (a : Act) (w : World), listed.size = ops.size → ClosedL ops listed →
      (∀ j oj, ops[j]? = some oj → j ≠ i → listed.getD j true = false → (∀ e ∈ oj.after, Region.binds .any e = true → e.on ≠ i) → oi.apart ops oj = true) →
      i ∈ Region.ready .any ops listed → AsAt ops oi a0 a → (∃ v', YieldsAt P ops w oi v' a ∧ a0.put oi.dst v' = a0.put oi.dst v) → SP P ops pend listed w →
      wpAnyE P ops Q (SP P ops (⟨oi, a0, b0, k⟩ :: pend)) fuel (listed.setIfInBounds i true) (a.put oi.dst v) w → wpAnyE P ops Q (SP P ops pend) (fuel + 1) listed a w := by
  intro fuel
  have fin : ∀ {f : Nat} {listed : Array Bool} {a : Act} {w : World}, AsAt ops oi a0 a → (∃ v', YieldsAt P ops w oi v' a ∧ a0.put oi.dst v' = a0.put oi.dst v) → SP P ops pend listed w →
      wpAnyE P ops Q (SP P ops (⟨oi, a0, b0, k⟩ :: pend)) f (listed.setIfInBounds i true) (a.put oi.dst v) w →
      wpOp P ops Q i (fun a' w' => SP P ops pend (listed.setIfInBounds i true) w' ∧ wpAnyE P ops Q (SP P ops pend) f (listed.setIfInBounds i true) a' w') a w := by
    intro f listed a w ha ⟨v', hy, he⟩ hS H
    refine wpOp_of_stOp (K := fun a' => a' = a.put oi.dst v) (fun a' ha' => ?_) (hy.stOp hi (put_same ha.2.2 he))
    subst ha'
    refine ⟨fun x hx hl => hS x hx ?_, wpAnyE_mono (G := fun _ => True) (fun _ _ _ => trivial) (fun l w _ h x hx => h x (List.mem_cons_of_mem _ hx)) f _ _ _ trivial H⟩
    rw [getD_set_ne false (Ne.symm (hpk x hx))] at hl
    exact hl
  induction fuel with
  | zero =>
    intro listed a w hsz hc _ hr ha hy hS H
    refine ⟨fun h => (by rw [h] at hr; cases hr), fun j hj => ?_⟩
    by_cases hji : j = i
    · subst hji; exact fin ha hy hS H
    · have := ready_mono hj hji
      rw [H.1] at this
      cases this
  | succ fuel ih =>
    intro listed a w hsz hc hfree hr ha hy hS H
    refine ⟨fun h => (by rw [h] at hr; cases hr), fun j hj => ?_⟩
    by_cases hji : j = i
    · subst hji; exact fin ha hy hS H
    · have h1 := H.2 j (ready_mono hj hji)
      obtain ⟨hjun, oj, hoj, hall⟩ := mem_ready.1 hj
      have hiun := getD_both (mem_ready.1 hr).1
      have hnot : ∀ e ∈ oj.after, Region.binds .any e = true → e.on ≠ i := fun e he hb heq => by
        have h1 := hall e he hb
        rw [heq, hiun] at h1
        cases h1
      have h2 := wpOp_putE hoj (hfree j oj hoj hji hjun hnot) (fun cs b => hsel i oi cs b hi) (fun cs b => hsel j oj cs b hoj) hQ ha h1
      have hfree' : ∀ k ok, ops[k]? = some ok → k ≠ i → (listed.setIfInBounds j true).getD k true = false →
          (∀ e ∈ ok.after, Region.binds .any e = true → e.on ≠ i) → oi.apart ops ok = true := fun k ok hk hki hun hno => by
        refine hfree k ok hk hki ?_ hno
        by_cases hjk : j = k
        · subst hjk; exact hjun
        · rw [getD_set_ne true hjk] at hun; exact hun
      refine wpOp_mono (fun a' w' h3 => ?_) h2
      obtain ⟨ha', hS', h4⟩ := h3
      have hc' := hc.set hj
      have hkun : ∀ l : Array Bool, ClosedL ops l → l.size = ops.size → l.getD i false = false → l.getD k false = false := by
        intro l hcl hls hil
        by_cases hks : k < ops.size
        · obtain ⟨n, hn⟩ := hw hks
          cases hkl : l.getD k false with
          | false => rfl
          | true => rw [waits_listed hcl n k i hn hkl] at hil; cases hil
        · simp [Array.getElem?_eq_none (show l.size ≤ k by omega)]
      have hij : (listed.setIfInBounds j true).getD i false = false := by rw [getD_set_ne false hji]; exact hiun
      have hkj : (listed.setIfInBounds j true).getD k false = false := hkun _ hc' (by simpa using hsz) hij
      have hSP : SP P ops pend (listed.setIfInBounds j true) w' := fun x hx hl => by
        refine hS' x (List.mem_cons_of_mem _ hx) ?_
        rw [Array.setIfInBounds_comm _ _ (Ne.symm hji), getD_set_ne false (Ne.symm (hpk x hx))]
        exact hl
      refine ⟨hSP, ih (listed.setIfInBounds j true) a' w' (by simpa using hsz) hc' hfree' (ready_mono hr (Ne.symm hji)) ha' ?_ hSP ?_⟩
      · have hok := hS' ⟨oi, a0, b0, k⟩ (by simp) (by rw [Array.setIfInBounds_comm _ _ (Ne.symm hji), getD_set_ne false (Ne.symm hk)]; exact hkj)
        unfold Pend.ok at hok
        by_cases hwt : Region.wanted oi (yielded ops a0.tmps) = true
        · simp only [hwt, if_true] at hok
          obtain ⟨v', hv', he⟩ := yieldsAt_of_stOp hi (stOp_of (ops := ops) (K := fun b => b = b0) hi (by rw [if_pos hwt]; exact hok))
          exact ⟨v', YieldsAt.asAt hv' ha', he.trans (hb0 hwt)⟩
        · have hwf : Region.wanted oi (yielded ops a0.tmps) = false := by simpa using hwt
          exact ⟨v, .inr ⟨ha'.2.1.trans hwf, hv hwf⟩, rfl⟩
      · rw [Array.setIfInBounds_comm _ _ hji]
        exact h4
/-- the order may be walked: each that is taken ahead may come up, nobody who could come first touches what it does, and who it is asked until waits for it; each other one is the only one that may come up -/
def canonOk (ops : Array Oper) (effs : List Nat) : List (Nat × Bool × Nat) → Array Bool → Bool
  | [], listed => (Region.ready .any ops listed).isEmpty
  | (i, false, k) :: rest, listed => (Region.ready .any ops listed).contains i && Region.free .any ops listed i && !effs.contains i && (decide (ops.size ≤ k) || (effs.contains k && waits ops ops.size k i)) &&
      canonOk ops effs rest (listed.setIfInBounds i true)
  | (i, true, _) :: rest, listed => decide (Region.ready .any ops listed = [i]) && effs.contains i && canonOk ops effs rest (listed.setIfInBounds i true)

theorem keepPend_mem {i : Nat} {x : Pend} : ∀ {l : List Pend}, x ∈ keepPend i l → x ∈ l ∧ x.k ≠ i
  | y :: l, h => by
    unfold keepPend at h
    split at h
    · have := keepPend_mem h; exact ⟨List.mem_cons_of_mem _ this.1, this.2⟩
    · rcases List.mem_cons.1 h with rfl | h
      · exact ⟨by simp, by assumption⟩
      · have := keepPend_mem h; exact ⟨List.mem_cons_of_mem _ this.1, this.2⟩
theorem mem_keepPend {i : Nat} {x : Pend} : ∀ {l : List Pend}, x ∈ l → x.k ≠ i → x ∈ keepPend i l
  | y :: l, h, hk => by
    unfold keepPend
    rcases List.mem_cons.1 h with rfl | h
    · rw [if_neg hk]; simp
    · split
      · exact mem_keepPend h hk
      · exact List.mem_cons_of_mem _ (mem_keepPend h hk)
theorem allOk_mem {i : Nat} {x : Pend} {w : World} : ∀ {l : List Pend}, allOk P ops i l w → x ∈ l → x.k ≠ i → x.ok P ops w
  | y :: l, h, hx, hk => by
    unfold allOk at h
    rcases List.mem_cons.1 hx with rfl | hx
    · rw [if_neg hk] at h; exact h.1
    · split at h
      · exact allOk_mem h hx hk
      · exact allOk_mem h.2 hx hk

theorem wpCan_any (hs : Region.noSelect ops = true) {Qn : Exit → Act → World → Prop} (hnorm : ∀ a w, Q .normal a w → Qn .normal a w) (hout : ∀ a w, Q .outgrown a w → Qn .outgrown a w)
    (hQ : ∀ c (a : Act) (d : Option Tmp) (v : Value) (w : World), Qn (.panic c) (a.put d v) w → Qn (.panic c) a w) (effs : List Nat) :
    ∀ (sched : List (Nat × Bool × Nat)) (pend : List Pend) (listed : Array Bool) (a : Act) (w : World), canonOk ops effs sched listed = true → listed.size = ops.size → ClosedL ops listed →
      (∀ x ∈ pend, ops.size ≤ x.k ∨ effs.contains x.k = true) → SP P ops pend listed w → wpCan P ops Q sched pend a w → wpAnyE P ops Qn (SP P ops pend) sched.length listed a w
  | [], pend, listed, a, w, hB, _, _, _, _, h => ⟨by simpa [canonOk] using hB, hnorm _ _ h⟩
  | (i, false, k) :: rest, pend, listed, a, w, hB, hsz, hc, hp, hS, h => by
    simp only [canonOk, Bool.and_eq_true, Bool.or_eq_true, decide_eq_true_eq, Bool.not_eq_true'] at hB
    obtain ⟨⟨⟨⟨hr, hf⟩, hne⟩, hk⟩, hB'⟩ := hB
    obtain ⟨o, ho, h⟩ := h
    dsimp only at h
    have hr' : i ∈ Region.ready .any ops listed := by simpa using hr
    have hilt : i < ops.size := (Array.getElem?_eq_some_iff.1 ho).1
    have hki : k ≠ i := fun e => by subst e; rcases hk with hk | hk; · omega
                                    · rw [hne] at hk; cases hk.1
    have hpk : ∀ x ∈ pend, x.k ≠ i := fun x hx e => by
      rcases hp x hx with h1 | h1
      · omega
      · rw [e, hne] at h1; cases h1
    have hw : k < ops.size → ∃ n, waits ops n k i = true := fun hlt => by
      rcases hk with hk | hk
      · omega
      · exact ⟨_, hk.2⟩
    have hc' := hc.set hr'
    have step : ∀ (b0 : Act) (v : Value), (Region.wanted o (yielded ops a.tmps) = true → b0 = a.put o.dst v) → (Region.wanted o (yielded ops a.tmps) = false → v = undef) → YieldsAt P ops w o v a →
        (⟨o, a, b0, k⟩ : Pend).ok P ops w → wpCan P ops Q rest (⟨o, a, b0, k⟩ :: pend) (a.put o.dst v) w → wpAnyE P ops Qn (SP P ops pend) ((i, false, k) :: rest).length listed a w := by
      intro b0 v hb0 hv hy hok hrest
      refine take_E ho (Region.noSelect_spec hs) hb0 hv hki hpk hw (fun c a w => hQ c a _ _ w) rest.length listed a w hsz hc (Region.free_spec ho hf) hr' ⟨rfl, rfl, rfl⟩ ⟨v, hy, rfl⟩ hS ?_
      refine wpCan_any hs hnorm hout hQ effs rest _ _ _ _ hB' (by simpa using hsz) hc' (fun x hx => ?_) (fun x hx hl => ?_) hrest
      · rcases List.mem_cons.1 hx with rfl | hx
        · rcases hk with hk | hk
          · exact .inl hk
          · exact .inr hk.1
        · exact hp x hx
      · rcases List.mem_cons.1 hx with rfl | hx
        · exact hok
        · refine hS x hx ?_
          rw [getD_set_ne false (Ne.symm (hpk x hx))] at hl
          exact hl
    by_cases hwt : Region.wanted o (yielded ops a.tmps) = true
    · rw [if_pos hwt] at h
      obtain ⟨v, hy, hK⟩ := yieldsAt_of_stOp (ops := ops) ho (stOp_of (ops := ops) ho (by rw [if_pos hwt]; exact h))
      refine step (a.put o.dst v) v (fun _ => rfl) (fun e => by rw [hwt] at e; cases e) hy ?_ hK
      have := hy.stOp ho (K := fun b => b = a.put o.dst v) rfl
      unfold stOp at this
      simp only [ho] at this
      unfold Pend.ok
      rw [if_pos hwt] at this ⊢
      exact this
    · have hwf : Region.wanted o (yielded ops a.tmps) = false := by simpa using hwt
      rw [if_neg hwt] at h
      exact step a undef (fun e => absurd e hwt) (fun _ => rfl) (.inr ⟨hwf, rfl⟩) (by unfold Pend.ok; rw [if_neg hwt]; trivial) h
  | (i, true, k) :: rest, pend, listed, a, w, hB, hsz, hc, hp, hS, h => by
    simp only [canonOk, Bool.and_eq_true, decide_eq_true_eq] at hB
    obtain ⟨⟨hr, he⟩, hB'⟩ := hB
    obtain ⟨o, ho, h⟩ := h
    dsimp only at h
    refine ⟨fun h0 => (by rw [h0] at hr; cases hr), fun j hj => ?_⟩
    have hji : j = i := by rw [hr] at hj; simpa using hj
    subst hji
    have hc' := hc.set hj
    have hsz' : (listed.setIfInBounds j true).size = ops.size := by simpa using hsz
    have hjlt : j < listed.size := by rw [hsz]; exact (Array.getElem?_eq_some_iff.1 ho).1
    have fin : ∀ b w', (allOk P ops j pend w' ∧ wpCan P ops Q rest (keepPend j pend) b w') →
        SP P ops pend (listed.setIfInBounds j true) w' ∧ wpAnyE P ops Qn (SP P ops pend) rest.length (listed.setIfInBounds j true) b w' := by
      intro b w' ⟨h1, h2⟩
      have hlist : (listed.setIfInBounds j true).getD j false = true := by simp [hjlt]
      have hSP : SP P ops pend (listed.setIfInBounds j true) w' := fun x hx hl => by
        by_cases hxj : x.k = j
        · rw [hxj, hlist] at hl; cases hl
        · exact allOk_mem h1 hx hxj
      refine ⟨hSP, ?_⟩
      have hk2 : SP P ops (keepPend j pend) (listed.setIfInBounds j true) w' := fun x hx hl => hSP x (keepPend_mem hx).1 hl
      have ih := wpCan_any hs hnorm hout hQ effs rest _ _ _ _ hB' hsz' hc' (fun x hx => hp x (keepPend_mem hx).1) hk2 h2
      refine wpAnyE_mono (G := fun l => l.getD j false = true) (fun l i hl => getD_set_true hl) (fun l w hl hh x hx hxl => ?_) _ _ _ _ hlist ih
      by_cases hxj : x.k = j
      · rw [hxj, hl] at hxl; cases hxl
      · exact hh x (mem_keepPend hx hxj) hxl
    unfold wpOp
    simp only [ho]
    unfold wpList at h
    split
    · rename_i hwt
      rw [if_pos hwt] at h
      rcases h with h | ⟨h1, b, w', h2⟩
      · refine .inl ?_
        unfold Oper.wp at *
        generalize (execOp a.eval o).run P w = r at *
        cases r with
        | ok n w' =>
          cases n <;> simp only [Oper.upon] at h ⊢
          case value u => exact fin _ _ h
          case skip => exact fin _ _ h
          case defer d => exact fin _ _ h
          case enter f args =>
            refine Calls.mono h fun e w'' he => ?_
            cases e with
            | returned u => exact fin _ _ he
            | panicked c => exact (he : False).elim
            | outgrown => obtain ⟨b, w3, h3⟩ := he; exact ⟨b, w3, hout _ _ h3⟩
          case row row args => exact Rows.mono h fun u w'' he => fin _ _ he
        | halt x w' =>
          cases x <;> simp only [Oper.upon] at h ⊢
          case panic u => exact (h : False).elim
      · exact .inr ⟨h1, b, w', hout _ _ h2⟩
    · rename_i hwt
      rw [if_neg hwt] at h
      exact fin _ _ h

/-- A REGION THAT DRAWS ITS ORDER, WALKED IN ONE ORDER. -/
theorem wp_region_canon {id : Nat} {a : Act} {w : World} {l : List Oper} (sched : List (Nat × Bool × Nat)) (hm : P.follows .mixedOrders = true)
    (hB : (Region.noSelect l.toArray && (decide (sched.length = l.length) && canonOk l.toArray ((sched.filter (·.2.1)).map (·.1)) sched (Array.replicate l.toArray.size false))) = true)
    (h : wpCan P l.toArray Q sched [] a w.drew) : (Code.region id l.toArray true).wp P Q a w := by
  simp only [Bool.and_eq_true, decide_eq_true_eq] at hB
  obtain ⟨hs, hlen, hB⟩ := hB
  have key : wpAnyE P l.toArray (NoPanic Q) (SP P l.toArray []) sched.length (Array.replicate l.toArray.size false) a w.drew := by
    refine wpCan_any (Q := Q) (Qn := NoPanic Q) hs (fun _ _ h => h) (fun _ _ h => h) (fun c a d v w h => (h : False).elim) _ sched [] _ a _ hB (by simp) (fun j o hj hl => ?_) (fun x hx => by cases hx) (fun x hx => by cases hx) h
    rw [getD_replicate_false] at hl
    cases hl
  have hz : sched.length = l.toArray.size := by simpa using hlen
  rw [hz] at key
  exact wp_region_noPanic (wp_region_any hm (wpAny_of_E _ _ _ _ key))
end
end Go.Proofs.Ytjijemeabfiipaa
