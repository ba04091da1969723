/- Joined texts: Nothing is proved here of the program: the imports that all texts of this claim share, and a few small lemmas. Of no program: a region that draws its order may be walked in ONE order: what only reads comes first, and is asked again behind each operation that turns the world, until one comes that waits for it. Of no program: what a slice value holds (to be read; to be appended to), what a call leaves as it was, and append's law over these words. Of no program: a region that draws its order, walked along a tree: what only reads comes first; where several operations that turn the world may come up, each of them is walked. Of no program: what a call owns on the heap, as a list of things that share no block; beside it what may be read by all and turns no more. Of no program: append of zeros, copy, clear and slices.overlaps over what is owned. Of no program: slices of elements as lists of cells; a slice argument as it reads. Values (api.Value): their cells; compared by the program. -/
import Derived.Test.YtgljdkjepdknnaaGreatDoorProg
import Derived.WalkKit
import Derived.ProofKit
import Derived.WalkLawsBesides
import Derived.WalkSpells
import Derived.Lib.Hide
import Derived.Deep.LoopGhost
import Derived.Deep.DeepMust
import Derived.Deep.QuietTactic
import Derived.BigQuiet
import Derived.RegionTactic
import Derived.StillTactics
import Derived.StillTail
import Derived.Deep.RegionHeld3
import Derived.Deep.AppendLies
import Derived.Deep.AppendSrc
import Derived.Laws.CopyRow
import Derived.Lib.Overlaps
import Derived.Deep.Slices
import Derived.Deep.Strs
import Derived.SizedLaws
import Derived.Deep.MidRow
set_option maxHeartbeats 64000000
namespace Go.Proofs.YtgljdkjepdknnaaGreatDoor
theorem BO {p : Prop} (h : p) : RowKit.Hid p := Lib.hid h
abbrev BP := @List.setIfInBounds_toArray
abbrev BQ := @List.set_cons_succ
abbrev BR := @List.set_cons_zero
abbrev BS := @List.getElem_toArray
abbrev BT := @List.getElem_cons_succ
abbrev BU := @List.getElem_cons_zero
open Go.ChangeShapes Go.WideShapes Go.ChangeAt Go.RowKit
attribute [go_sem] Instr.field asAgg
@[go_sem low] theorem kW {P : Program} (w : World) (a : Addr) (v : Value) (m : Mode) (hv : v.oneCell' = true) : (store a v m).run P w = stored P w a v m := run_store P w a v m hv
theorem mD {a b : Bool} (h : a = b) : Ending.returned (.bool a) = .returned (.bool b) := by rw [h]
section
variable {P : Program} {ops : Array Oper} {Q : Exit → Act → World → Prop}
structure Pend where
  o : Oper
  a : Act
  b : Act
  k : Nat
def Pend.ok (P : Program) (ops : Array Oper) (x : Pend) (w : World) : Prop :=
  if Region.wanted x.o (yielded ops x.a.tmps) then x.o.still P x.a w (fun b => b = x.b) else True
def fe (P : Program) (ops : Array Oper) (i : Nat) : List Pend → World → Prop
  | [], _ => True
  | x :: l, w => if x.k = i then fe P ops i l w else x.ok P ops w ∧ fe P ops i l w
def dn (i : Nat) : List Pend → List Pend
  | [] => []
  | x :: l => if x.k = i then dn i l else x :: dn i l
def effQ (Q : Exit → Act → World → Prop) (R : Act → World → Prop) : Exit → Act → World → Prop
  | .normal, a, w => R a w
  | .outgrown, a, w => Q .outgrown a w
  | _, _, _ => False
def eI (P : Program) (ops : Array Oper) (Q : Exit → Act → World → Prop) : List (Nat × Bool × Nat) → List Pend → Act → World → Prop
  | [], _, a, w => Q .normal a w
  | (i, e, k) :: rest, pend, a, w => ∃ o, ops[i]? = some o ∧
    match e with
    | false => if Region.wanted o (yielded ops a.tmps) then o.still P a w (fun b => eI P ops Q rest (⟨o, a, b, k⟩ :: pend) b w) else eI P ops Q rest (⟨o, a, a, k⟩ :: pend) (a.put o.dst undef) w
    | true => wpList P ops (effQ Q fun b w' => fe P ops i pend w' ∧ eI P ops Q rest (dn i pend) b w') [o] a w
attribute [go_sem] fe dn Pend.ok
theorem ap {pend : List Pend} {a : Act} {w : World} (h : Q .normal a w) : eI P ops Q [] pend a w := h
theorem al {i k : Nat} {rest : List (Nat × Bool × Nat)} {pend : List Pend} {a : Act} {w : World} {o : Oper} (ho : ops[i]? = some o)
    (h : wpList P ops (effQ Q fun b w' => fe P ops i pend w' ∧ eI P ops Q rest (dn i pend) b w') [o] a w) : eI P ops Q ((i, true, k) :: rest) pend a w :=
  ⟨o, ho, h⟩
theorem ae {i k : Nat} {rest : List (Nat × Bool × Nat)} {pend : List Pend} {a : Act} {w : World} {o : Oper} (ho : ops[i]? = some o) (hg : o.guard = none)
    (h : ∀ K : Act → Prop, (∀ b, eI P ops Q rest (⟨o, a, b, k⟩ :: pend) b w → K b) → o.still P a w K) : eI P ops Q ((i, false, k) :: rest) pend a w := by
  refine ⟨o, ho, ?_⟩
  dsimp only
  rw [if_pos (by simp [Region.wanted, hg])]
  exact h _ (fun _ h => h)
theorem ak {i k : Nat} {rest : List (Nat × Bool × Nat)} {pend : List Pend} {a : Act} {w : World} {o : Oper} (ho : ops[i]? = some o) (hg : Region.wanted o (yielded ops a.tmps) = true)
    (h : ∀ K : Act → Prop, (∀ b, eI P ops Q rest (⟨o, a, b, k⟩ :: pend) b w → K b) → o.still P a w K) : eI P ops Q ((i, false, k) :: rest) pend a w := by
  refine ⟨o, ho, ?_⟩
  dsimp only
  rw [if_pos hg]
  exact h _ (fun _ h => h)
theorem am {i k : Nat} {rest : List (Nat × Bool × Nat)} {pend : List Pend} {a : Act} {w : World} {o : Oper} (ho : ops[i]? = some o) (hg : Region.wanted o (yielded ops a.tmps) = false)
    (h : eI P ops Q rest (⟨o, a, a, k⟩ :: pend) (a.put o.dst undef) w) : eI P ops Q ((i, false, k) :: rest) pend a w := by
  refine ⟨o, ho, ?_⟩
  dsimp only
  rw [if_neg (by simp [hg])]
  exact h
def waits (ops : Array Oper) : Nat → Nat → Nat → Bool
  | 0, _, _ => false
  | n + 1, k, i => match ops[k]? with
    | none => false
    | some o => o.after.any fun e => Region.binds .any e && (e.on == i || waits ops n e.on i)
def ClosedL (ops : Array Oper) (listed : Array Bool) : Prop :=
  ∀ j o, ops[j]? = some o → listed.getD j false = true → ∀ e ∈ o.after, Region.binds .any e = true → listed.getD e.on false = true
theorem iG {listed : Array Bool} (hc : ClosedL ops listed) : ∀ (n k i : Nat), waits ops n k i = true → listed.getD k false = true → listed.getD i false = true
  | 0, _, _, h, _ => by simp [waits] at h
  | n + 1, k, i, h, hk => by
    unfold waits at h
    split at h
    · cases h
    · rename_i o ho
      obtain ⟨e, he, hb⟩ := Array.any_eq_true'.1 h
      simp only [Bool.and_eq_true, Bool.or_eq_true, beq_iff_eq] at hb
      have h1 := hc k o ho hk e he hb.1
      rcases hb.2 with h2 | h2
      · rw [h2] at h1; exact h1
      · exact iG hc n e.on i h2 h1
theorem ClosedL.set {listed : Array Bool} {i : Nat} (hc : ClosedL ops listed) (hi : i ∈ Region.ready .any ops listed) : ClosedL ops (listed.setIfInBounds i true) := by
  obtain ⟨_, oi, hoi, hall⟩ := mem_ready.1 hi
  intro j oj hj hl e he hb
  by_cases hij : i = j
  · subst hij
    have : oj = oi := Option.some.inj (hj.symm.trans hoi)
    subst this
    exact getD_set_true (hall e he hb)
  · rw [getD_set_ne false hij] at hl
    exact getD_set_true (hc j oj hj hl e he hb)
def eE (P : Program) (ops : Array Oper) (Q : Exit → Act → World → Prop) (S : Array Bool → World → Prop) : Nat → Array Bool → Act → World → Prop
  | 0, listed, a, w => Region.ready .any ops listed = [] ∧ Q .normal a w
  | fuel + 1, listed, a, w =>
    (Region.ready .any ops listed = [] → Q .normal a w) ∧
    ∀ i ∈ Region.ready .any ops listed, wpOp P ops Q i (fun a' w' => S (listed.setIfInBounds i true) w' ∧ eE P ops Q S fuel (listed.setIfInBounds i true) a' w') a w
theorem jT {S : Array Bool → World → Prop} : ∀ (fuel : Nat) (listed : Array Bool) (a : Act) (w : World), eE P ops Q S fuel listed a w → wpAny P .any ops Q fuel listed a w
  | 0, _, _, _, h => h
  | fuel + 1, _, _, _, h => ⟨h.1, fun i hi => wpOp_mono (fun a' w' h' => jT fuel _ a' w' h'.2) (h.2 i hi)⟩
theorem gq {S S' : Array Bool → World → Prop} {G : Array Bool → Prop} (hG : ∀ l i, G l → G (l.setIfInBounds i true)) (hS : ∀ l w, G l → S l w → S' l w) :
    ∀ (fuel : Nat) (listed : Array Bool) (a : Act) (w : World), G listed → eE P ops Q S fuel listed a w → eE P ops Q S' fuel listed a w
  | 0, _, _, _, _, h => h
  | fuel + 1, listed, _, _, hl, h => ⟨h.1, fun i hi => wpOp_mono (fun a' w' h' => ⟨hS _ _ (hG listed i hl) h'.1, gq hG hS fuel _ a' w' (hG listed i hl) h'.2⟩) (h.2 i hi)⟩
def AsAt (ops : Array Oper) (o : Oper) (a0 a : Act) : Prop :=
  execOp a.eval o = execOp a0.eval o ∧ Region.wanted o (yielded ops a.tmps) = Region.wanted o (yielded ops a0.tmps) ∧ a.tmps.size = a0.tmps.size
theorem rC (a : Act) (d : Option Tmp) (v : Value) : (a.put d v).tmps.size = a.tmps.size := by
  cases d <;> simp [Act.put]
theorem AsAt.put {o : Oper} {a0 a : Act} (h : AsAt ops o a0 a) (hs : ∀ cs b, o.op ≠ .select cs b) (d : Option Tmp) (v : Value) (hd : ∀ t, d = some t → t ∉ o.looksAt ops) : AsAt ops o a0 (a.put d v) :=
  ⟨(execOp_put o hs a d v hd).trans h.1, (wanted_put o a d v hd).trans h.2.1, (rC a d v).trans h.2.2⟩
theorem qC {j : Nat} {oi oj : Oper} {v : Value} {a0 : Act} (hj : ops[j]? = some oj) (hap : oi.apart ops oj = true)
    (hsi : ∀ cs b, oi.op ≠ .select cs b) (hsj : ∀ cs b, oj.op ≠ .select cs b)
    (hQ : ∀ c a w, Q (.panic c) (a.put oi.dst v) w → Q (.panic c) a w) {K : Act → World → Prop} {a : Act} {w : World}
    (hy : AsAt ops oi a0 a) (h : wpOp P ops Q j K (a.put oi.dst v) w) :
    wpOp P ops Q j (fun a' w' => AsAt ops oi a0 a' ∧ K (a'.put oi.dst v) w') a w := by
  obtain ⟨h1, h2, h3⟩ := Oper.apart_spec hap
  have keep : ∀ (a : Act), AsAt ops oi a0 a → ∀ u, AsAt ops oi a0 (a.put oj.dst u) := fun a hy u => hy.put hsi oj.dst u h3
  have keepD : ∀ d, AsAt ops oi a0 { a with defers := d :: a.defers } := fun d => ⟨hy.1, hy.2.1, hy.2.2⟩
  unfold wpOp at *
  simp only [hj] at *
  rw [wanted_put oj a oi.dst v h1] at h
  split
  · rename_i hw
    simp only [hw, if_true] at h
    rcases h with h | ⟨hasks, hlets⟩
    case inr => exact .inr ⟨by unfold Oper.asks at *; rw [execOp_put oj hsj a oi.dst v h1] at hasks; exact hasks, hlets⟩
    refine .inl ?_
    unfold Oper.wp at *
    rw [execOp_put oj hsj a oi.dst v h1] at h
    generalize (execOp a.eval oj).run P w = r at *
    cases r with
    | ok n w' =>
      cases n <;> simp only [Oper.upon] at h ⊢
      case value u => exact ⟨keep a hy u, by rw [← Act.put_comm a v u h2]; exact h⟩
      case skip => exact ⟨keep a hy _, by rw [← Act.put_comm a v undef h2]; exact h⟩
      case defer d =>
        refine ⟨keep _ (keepD d) _, ?_⟩
        rw [← Act.put_comm _ v undef h2, ← Act.put_defers]
        exact h
      case enter f args =>
        refine Calls.mono h fun e w'' he => ?_
        cases e with
        | returned u => exact ⟨keep a hy u, by rw [← Act.put_comm a v u h2]; exact he⟩
        | panicked c => exact hQ _ _ _ he
        | outgrown => exact he
      case row row args => exact Rows.mono h fun u w'' he => ⟨keep a hy u, by rw [← Act.put_comm a v u h2]; exact he⟩
    | halt x w' =>
      cases x <;> simp only [Oper.upon] at h ⊢
      case panic u => exact hQ _ _ _ h
  · rename_i hw
    simp only [hw] at h
    exact ⟨keep a hy _, by rw [← Act.put_comm a v undef h2]; exact h⟩
def SP (P : Program) (ops : Array Oper) (pend : List Pend) (listed : Array Bool) (w : World) : Prop :=
  ∀ x ∈ pend, listed.getD x.k false = false → x.ok P ops w
theorem pi {i : Nat} {o : Oper} {a : Act} {K : Act → Prop} {w : World} (hi : ops[i]? = some o)
    (h : if Region.wanted o (yielded ops a.tmps) then o.still P a w K else K (a.put o.dst undef)) : stOp P ops w i K a := by
  unfold stOp
  simp only [hi]
  exact h
theorem YieldsAt.asAt {o : Oper} {v : Value} {a0 a : Act} {w : World} (hy : YieldsAt P ops w o v a0) (h : AsAt ops o a0 a) : YieldsAt P ops w o v a := hy.of_same h.1 h.2.1
theorem rB {a0 a : Act} {d : Option Tmp} {v v' : Value} (hs : a.tmps.size = a0.tmps.size) (h : a0.put d v' = a0.put d v) : a.put d v' = a.put d v := by
  cases d with
  | none => rfl
  | some d =>
    simp only [Act.put, Act.mk.injEq, and_true] at h ⊢
    rcases Nat.lt_or_ge d a0.tmps.size with hd | hd
    · have e := congrArg (fun t => t[d]?) h
      simp [hd] at e
      rw [e]
    · have h1 : a.tmps.size ≤ d := by omega
      rw [Array.setIfInBounds_eq_of_size_le h1, Array.setIfInBounds_eq_of_size_le h1]
theorem take_E {i k : Nat} {oi : Oper} {v : Value} {a0 b0 : Act} {pend : List Pend} (hi : ops[i]? = some oi) (hsel : ∀ (j : Nat) (o : Oper) cs b, ops[j]? = some o → o.op ≠ .select cs b)
    (hb0 : Region.wanted oi (yielded ops a0.tmps) = true → b0 = a0.put oi.dst v) (hv : Region.wanted oi (yielded ops a0.tmps) = false → v = undef)
    (hk : k ≠ i) (hpk : ∀ x ∈ pend, x.k ≠ i) (hw : k < ops.size → ∃ n, waits ops n k i = true)
    (hQ : ∀ c a w, Q (.panic c) (a.put oi.dst v) w → Q (.panic c) a w) :
    ∀ (fuel : Nat) (listed : Array Bool) (a : Act) (w : World), listed.size = ops.size → ClosedL ops listed →
      (∀ j oj, ops[j]? = some oj → j ≠ i → listed.getD j true = false → (∀ e ∈ oj.after, Region.binds .any e = true → e.on ≠ i) → oi.apart ops oj = true) →
      i ∈ Region.ready .any ops listed → AsAt ops oi a0 a → (∃ v', YieldsAt P ops w oi v' a ∧ a0.put oi.dst v' = a0.put oi.dst v) → SP P ops pend listed w →
      eE P ops Q (SP P ops (⟨oi, a0, b0, k⟩ :: pend)) fuel (listed.setIfInBounds i true) (a.put oi.dst v) w → eE P ops Q (SP P ops pend) (fuel + 1) listed a w := by
  intro fuel
  have fin : ∀ {f : Nat} {listed : Array Bool} {a : Act} {w : World}, AsAt ops oi a0 a → (∃ v', YieldsAt P ops w oi v' a ∧ a0.put oi.dst v' = a0.put oi.dst v) → SP P ops pend listed w →
      eE P ops Q (SP P ops (⟨oi, a0, b0, k⟩ :: pend)) f (listed.setIfInBounds i true) (a.put oi.dst v) w →
      wpOp P ops Q i (fun a' w' => SP P ops pend (listed.setIfInBounds i true) w' ∧ eE P ops Q (SP P ops pend) f (listed.setIfInBounds i true) a' w') a w := by
    intro f listed a w ha ⟨v', hy, he⟩ hS H
    refine wpOp_of_stOp (K := fun a' => a' = a.put oi.dst v) (fun a' ha' => ?_) (hy.stOp hi (rB ha.2.2 he))
    subst ha'
    refine ⟨fun x hx hl => hS x hx ?_, gq (G := fun _ => True) (fun _ _ _ => trivial) (fun l w _ h x hx => h x (List.mem_cons_of_mem _ hx)) f _ _ _ trivial H⟩
    rw [getD_set_ne false (Ne.symm (hpk x hx))] at hl
    exact hl
  induction fuel with
  | zero =>
    intro listed a w hsz hc _ hr ha hy hS H
    refine ⟨fun h => (by rw [h] at hr; cases hr), fun j hj => ?_⟩
    by_cases hji : j = i
    · subst hji; exact fin ha hy hS H
    · have := ready_mono hj hji
      rw [H.1] at this
      cases this
  | succ fuel ih =>
    intro listed a w hsz hc hfree hr ha hy hS H
    refine ⟨fun h => (by rw [h] at hr; cases hr), fun j hj => ?_⟩
    by_cases hji : j = i
    · subst hji; exact fin ha hy hS H
    · have h1 := H.2 j (ready_mono hj hji)
      obtain ⟨hjun, oj, hoj, hall⟩ := mem_ready.1 hj
      have hiun := getD_both (mem_ready.1 hr).1
      have hnot : ∀ e ∈ oj.after, Region.binds .any e = true → e.on ≠ i := fun e he hb heq => by
        have h1 := hall e he hb
        rw [heq, hiun] at h1
        cases h1
      have h2 := qC hoj (hfree j oj hoj hji hjun hnot) (fun cs b => hsel i oi cs b hi) (fun cs b => hsel j oj cs b hoj) hQ ha h1
      have hfree' : ∀ k ok, ops[k]? = some ok → k ≠ i → (listed.setIfInBounds j true).getD k true = false →
          (∀ e ∈ ok.after, Region.binds .any e = true → e.on ≠ i) → oi.apart ops ok = true := fun k ok hk hki hun hno => by
        refine hfree k ok hk hki ?_ hno
        by_cases hjk : j = k
        · subst hjk; exact hjun
        · rw [getD_set_ne true hjk] at hun; exact hun
      refine wpOp_mono (fun a' w' h3 => ?_) h2
      obtain ⟨ha', hS', h4⟩ := h3
      have hc' := hc.set hj
      have hkun : ∀ l : Array Bool, ClosedL ops l → l.size = ops.size → l.getD i false = false → l.getD k false = false := by
        intro l hcl hls hil
        by_cases hks : k < ops.size
        · obtain ⟨n, hn⟩ := hw hks
          cases hkl : l.getD k false with
          | false => rfl
          | true => rw [iG hcl n k i hn hkl] at hil; cases hil
        · simp [Array.getElem?_eq_none (show l.size ≤ k by omega)]
      have hij : (listed.setIfInBounds j true).getD i false = false := by rw [getD_set_ne false hji]; exact hiun
      have hkj : (listed.setIfInBounds j true).getD k false = false := hkun _ hc' (by simpa using hsz) hij
      have hSP : SP P ops pend (listed.setIfInBounds j true) w' := fun x hx hl => by
        refine hS' x (List.mem_cons_of_mem _ hx) ?_
        rw [Array.setIfInBounds_comm _ _ (Ne.symm hji), getD_set_ne false (Ne.symm (hpk x hx))]
        exact hl
      refine ⟨hSP, ih (listed.setIfInBounds j true) a' w' (by simpa using hsz) hc' hfree' (ready_mono hr (Ne.symm hji)) ha' ?_ hSP ?_⟩
      · have hok := hS' ⟨oi, a0, b0, k⟩ (by simp) (by rw [Array.setIfInBounds_comm _ _ (Ne.symm hji), getD_set_ne false (Ne.symm hk)]; exact hkj)
        unfold Pend.ok at hok
        by_cases hwt : Region.wanted oi (yielded ops a0.tmps) = true
        · simp only [hwt, if_true] at hok
          obtain ⟨v', hv', he⟩ := yieldsAt_of_stOp hi (pi (ops := ops) (K := fun b => b = b0) hi (by rw [if_pos hwt]; exact hok))
          exact ⟨v', YieldsAt.asAt hv' ha', he.trans (hb0 hwt)⟩
        · have hwf : Region.wanted oi (yielded ops a0.tmps) = false := by simpa using hwt
          exact ⟨v, .inr ⟨ha'.2.1.trans hwf, hv hwf⟩, rfl⟩
      · rw [Array.setIfInBounds_comm _ _ hji]
        exact h4
def fR (ops : Array Oper) (effs : List Nat) : List (Nat × Bool × Nat) → Array Bool → Bool
  | [], listed => (Region.ready .any ops listed).isEmpty
  | (i, false, k) :: rest, listed => (Region.ready .any ops listed).contains i && Region.free .any ops listed i && !effs.contains i && (decide (ops.size ≤ k) || (effs.contains k && waits ops ops.size k i)) &&
      fR ops effs rest (listed.setIfInBounds i true)
  | (i, true, _) :: rest, listed => decide (Region.ready .any ops listed = [i]) && effs.contains i && fR ops effs rest (listed.setIfInBounds i true)
theorem eJ {i : Nat} {x : Pend} : ∀ {l : List Pend}, x ∈ dn i l → x ∈ l ∧ x.k ≠ i
  | y :: l, h => by
    unfold dn at h
    split at h
    · have := eJ h; exact ⟨List.mem_cons_of_mem _ this.1, this.2⟩
    · rcases List.mem_cons.1 h with rfl | h
      · exact ⟨by simp, by assumption⟩
      · have := eJ h; exact ⟨List.mem_cons_of_mem _ this.1, this.2⟩
theorem fS {i : Nat} {x : Pend} : ∀ {l : List Pend}, x ∈ l → x.k ≠ i → x ∈ dn i l
  | y :: l, h, hk => by
    unfold dn
    rcases List.mem_cons.1 h with rfl | h
    · rw [if_neg hk]; simp
    · split
      · exact fS h hk
      · exact List.mem_cons_of_mem _ (fS h hk)
theorem iY {i : Nat} {x : Pend} {w : World} : ∀ {l : List Pend}, fe P ops i l w → x ∈ l → x.k ≠ i → x.ok P ops w
  | y :: l, h, hx, hk => by
    unfold fe at h
    rcases List.mem_cons.1 hx with rfl | hx
    · rw [if_neg hk] at h; exact h.1
    · split at h
      · exact iY h hx hk
      · exact iY h.2 hx hk
theorem iS (hs : Region.noSelect ops = true) {Qn : Exit → Act → World → Prop} (hnorm : ∀ a w, Q .normal a w → Qn .normal a w) (hout : ∀ a w, Q .outgrown a w → Qn .outgrown a w)
    (hQ : ∀ c (a : Act) (d : Option Tmp) (v : Value) (w : World), Qn (.panic c) (a.put d v) w → Qn (.panic c) a w) (effs : List Nat) :
    ∀ (sched : List (Nat × Bool × Nat)) (pend : List Pend) (listed : Array Bool) (a : Act) (w : World), fR ops effs sched listed = true → listed.size = ops.size → ClosedL ops listed →
      (∀ x ∈ pend, ops.size ≤ x.k ∨ effs.contains x.k = true) → SP P ops pend listed w → eI P ops Q sched pend a w → eE P ops Qn (SP P ops pend) sched.length listed a w
  | [], pend, listed, a, w, hB, _, _, _, _, h => ⟨by simpa [fR] using hB, hnorm _ _ h⟩
  | (i, false, k) :: rest, pend, listed, a, w, hB, hsz, hc, hp, hS, h => by
    simp only [fR, Bool.and_eq_true, Bool.or_eq_true, decide_eq_true_eq, Bool.not_eq_true'] at hB
    obtain ⟨⟨⟨⟨hr, hf⟩, hne⟩, hk⟩, hB'⟩ := hB
    obtain ⟨o, ho, h⟩ := h
    dsimp only at h
    have hr' : i ∈ Region.ready .any ops listed := by simpa using hr
    have hilt : i < ops.size := (Array.getElem?_eq_some_iff.1 ho).1
    have hki : k ≠ i := fun e => by subst e; rcases hk with hk | hk; · omega
                                    · rw [hne] at hk; cases hk.1
    have hpk : ∀ x ∈ pend, x.k ≠ i := fun x hx e => by
      rcases hp x hx with h1 | h1
      · omega
      · rw [e, hne] at h1; cases h1
    have hw : k < ops.size → ∃ n, waits ops n k i = true := fun hlt => by
      rcases hk with hk | hk
      · omega
      · exact ⟨_, hk.2⟩
    have hc' := hc.set hr'
    have step : ∀ (b0 : Act) (v : Value), (Region.wanted o (yielded ops a.tmps) = true → b0 = a.put o.dst v) → (Region.wanted o (yielded ops a.tmps) = false → v = undef) → YieldsAt P ops w o v a →
        (⟨o, a, b0, k⟩ : Pend).ok P ops w → eI P ops Q rest (⟨o, a, b0, k⟩ :: pend) (a.put o.dst v) w → eE P ops Qn (SP P ops pend) ((i, false, k) :: rest).length listed a w := by
      intro b0 v hb0 hv hy hok hrest
      refine take_E ho (Region.noSelect_spec hs) hb0 hv hki hpk hw (fun c a w => hQ c a _ _ w) rest.length listed a w hsz hc (Region.free_spec ho hf) hr' ⟨rfl, rfl, rfl⟩ ⟨v, hy, rfl⟩ hS ?_
      refine iS hs hnorm hout hQ effs rest _ _ _ _ hB' (by simpa using hsz) hc' (fun x hx => ?_) (fun x hx hl => ?_) hrest
      · rcases List.mem_cons.1 hx with rfl | hx
        · rcases hk with hk | hk
          · exact .inl hk
          · exact .inr hk.1
        · exact hp x hx
      · rcases List.mem_cons.1 hx with rfl | hx
        · exact hok
        · refine hS x hx ?_
          rw [getD_set_ne false (Ne.symm (hpk x hx))] at hl
          exact hl
    by_cases hwt : Region.wanted o (yielded ops a.tmps) = true
    · rw [if_pos hwt] at h
      obtain ⟨v, hy, hK⟩ := yieldsAt_of_stOp (ops := ops) ho (pi (ops := ops) ho (by rw [if_pos hwt]; exact h))
      refine step (a.put o.dst v) v (fun _ => rfl) (fun e => by rw [hwt] at e; cases e) hy ?_ hK
      have := hy.stOp ho (K := fun b => b = a.put o.dst v) rfl
      unfold stOp at this
      simp only [ho] at this
      unfold Pend.ok
      rw [if_pos hwt] at this ⊢
      exact this
    · have hwf : Region.wanted o (yielded ops a.tmps) = false := by simpa using hwt
      rw [if_neg hwt] at h
      exact step a undef (fun e => absurd e hwt) (fun _ => rfl) (.inr ⟨hwf, rfl⟩) (by unfold Pend.ok; rw [if_neg hwt]; trivial) h
  | (i, true, k) :: rest, pend, listed, a, w, hB, hsz, hc, hp, hS, h => by
    simp only [fR, Bool.and_eq_true, decide_eq_true_eq] at hB
    obtain ⟨⟨hr, he⟩, hB'⟩ := hB
    obtain ⟨o, ho, h⟩ := h
    dsimp only at h
    refine ⟨fun h0 => (by rw [h0] at hr; cases hr), fun j hj => ?_⟩
    have hji : j = i := by rw [hr] at hj; simpa using hj
    subst hji
    have hc' := hc.set hj
    have hsz' : (listed.setIfInBounds j true).size = ops.size := by simpa using hsz
    have hjlt : j < listed.size := by rw [hsz]; exact (Array.getElem?_eq_some_iff.1 ho).1
    have fin : ∀ b w', (fe P ops j pend w' ∧ eI P ops Q rest (dn j pend) b w') →
        SP P ops pend (listed.setIfInBounds j true) w' ∧ eE P ops Qn (SP P ops pend) rest.length (listed.setIfInBounds j true) b w' := by
      intro b w' ⟨h1, h2⟩
      have hlist : (listed.setIfInBounds j true).getD j false = true := by simp [hjlt]
      have hSP : SP P ops pend (listed.setIfInBounds j true) w' := fun x hx hl => by
        by_cases hxj : x.k = j
        · rw [hxj, hlist] at hl; cases hl
        · exact iY h1 hx hxj
      refine ⟨hSP, ?_⟩
      have hk2 : SP P ops (dn j pend) (listed.setIfInBounds j true) w' := fun x hx hl => hSP x (eJ hx).1 hl
      have ih := iS hs hnorm hout hQ effs rest _ _ _ _ hB' hsz' hc' (fun x hx => hp x (eJ hx).1) hk2 h2
      refine gq (G := fun l => l.getD j false = true) (fun l i hl => getD_set_true hl) (fun l w hl hh x hx hxl => ?_) _ _ _ _ hlist ih
      by_cases hxj : x.k = j
      · rw [hxj, hl] at hxl; cases hxl
      · exact hh x (fS hx hxj) hxl
    unfold wpOp
    simp only [ho]
    unfold wpList at h
    split
    · rename_i hwt
      rw [if_pos hwt] at h
      rcases h with h | ⟨h1, b, w', h2⟩
      · refine .inl ?_
        unfold Oper.wp at *
        generalize (execOp a.eval o).run P w = r at *
        cases r with
        | ok n w' =>
          cases n <;> simp only [Oper.upon] at h ⊢
          case value u => exact fin _ _ h
          case skip => exact fin _ _ h
          case defer d => exact fin _ _ h
          case enter f args =>
            refine Calls.mono h fun e w'' he => ?_
            cases e with
            | returned u => exact fin _ _ he
            | panicked c => exact (he : False).elim
            | outgrown => obtain ⟨b, w3, h3⟩ := he; exact ⟨b, w3, hout _ _ h3⟩
          case row row args => exact Rows.mono h fun u w'' he => fin _ _ he
        | halt x w' =>
          cases x <;> simp only [Oper.upon] at h ⊢
          case panic u => exact (h : False).elim
      · exact .inr ⟨h1, b, w', hout _ _ h2⟩
    · rename_i hwt
      rw [if_neg hwt] at h
      exact fin _ _ h
theorem af {id : Nat} {a : Act} {w : World} {l : List Oper} (sched : List (Nat × Bool × Nat)) (hm : P.follows .mixedOrders = true)
    (hB : (Region.noSelect l.toArray && (decide (sched.length = l.length) && fR l.toArray ((sched.filter (·.2.1)).map (·.1)) sched (Array.replicate l.toArray.size false))) = true)
    (h : eI P l.toArray Q sched [] a w.drew) : (Code.region id l.toArray true).wp P Q a w := by
  simp only [Bool.and_eq_true, decide_eq_true_eq] at hB
  obtain ⟨hs, hlen, hB⟩ := hB
  have key : eE P l.toArray (NoPanic Q) (SP P l.toArray []) sched.length (Array.replicate l.toArray.size false) a w.drew := by
    refine iS (Q := Q) (Qn := NoPanic Q) hs (fun _ _ h => h) (fun _ _ h => h) (fun c a d v w h => (h : False).elim) _ sched [] _ a _ hB (by simp) (fun j o hj hl => ?_) (fun x hx => by cases hx) (fun x hx => by cases hx) h
    rw [getD_replicate_false] at hl
    cases hl
  have hz : sched.length = l.toArray.size := by simpa using hlen
  rw [hz] at key
  exact wp_region_noPanic (wp_region_any hm (jT _ _ _ _ key))
end
structure Kept (S : Nat → Prop) (w w' : World) : Prop where
  os : w'.os = w.os
  tape : w'.tape = w.tape
  output : w'.output = w.output
  size : w.heap.size ≤ w'.heap.size
  block : ∀ k, k < w.heap.size → ¬ S k → w'.heap[k]? = w.heap[k]?
attribute [go_sem] Lib.run_eql_slice_nil
namespace Kept
variable {S T : Nat → Prop} {w w1 w2 : World}
theorem refl (S : Nat → Prop) (w : World) : Kept S w w := ⟨rfl, rfl, rfl, Nat.le_refl _, fun _ _ _ => rfl⟩
theorem trans (h : Kept S w w1) (k : Kept T w1 w2) (hT : ∀ k, T k → S k ∨ w.heap.size ≤ k) : Kept S w w2 :=
  ⟨k.os.trans h.os, k.tape.trans h.tape, k.output.trans h.output, Nat.le_trans h.size k.size, fun i hi hs => by
    have hnt : ¬ T i := fun ht => (hT i ht).elim hs (fun h1 => by omega)
    rw [k.block i (Nat.lt_of_lt_of_le hi h.size) hnt, h.block i hi hs]⟩
theorem mono (h : Kept S w w1) (hT : ∀ k, k < w.heap.size → S k → T k) : Kept T w w1 := ⟨h.os, h.tape, h.output, h.size, fun i hi hs => h.block i hi (fun h1 => hs (hT i hi h1))⟩
theorem drew (h : Kept S w w1) : Kept S w w1.drew := ⟨h.os, h.tape, h.output, h.size, h.block⟩
theorem drewN (h : Kept S w w1) (n : Nat) : Kept S w (w1.drewN n) := ⟨h.os, h.tape, h.output, h.size, h.block⟩
theorem alloc (h : Kept S w w1) (o : Obj) : Kept S w (w1.alloc o) := h.trans (T := fun _ => False) ⟨rfl, rfl, rfl, by simp, fun k hk _ => Below.heap_alloc _ _ _ hk⟩ (fun _ h => h.elim)
theorem setCell (h : Kept S w w1) (p : Addr) (u : Value) (hp : S p.block ∨ w.heap.size ≤ p.block) : Kept S w (w1.setCell p u) :=
  h.trans (T := fun k => k = p.block) ⟨rfl, rfl, rfl, by simp [World.setCell], fun k _ hk => Below.heap_setCell _ _ _ _ hk⟩ (fun _ h => h ▸ hp)
theorem set_at (w : World) (b j : Nat) (u : Value) : Kept (fun k => k = b) w (w.setCell ⟨b, j, none⟩ u) := (refl _ w).setCell ⟨b, j, none⟩ u (.inl rfl)
theorem below (h : Kept S w w1) {B : Nat} (hB : B ≤ w.heap.size) (hS : ∀ k, S k → B ≤ k) : Below B w w1 := ⟨h.os, h.tape, h.output, h.size, fun k hk => h.block k (by omega) (fun hs => by have := hS k hs; omega)⟩
theorem cell (h : Kept S w w1) {p : Addr} (hp : p.block < w.heap.size) (hs : ¬ S p.block) : w1.cell? p = w.cell? p := World.cell?_of_block (h.block _ hp hs)
theorem frozen (h : Kept S w w1) {p : Addr} (hp : p.block < w.heap.size) (hs : ¬ S p.block) : w1.frozen? p = w.frozen? p := World.frozen?_of_block (h.block _ hp hs)
end Kept
theorem aI {w : World} {g : Nat} {o : Obj} (h : w.heap[g]? = some o) : g < w.heap.size := (Array.getElem?_eq_some_iff.1 h).1
theorem bZ (g o n : Nat) : (⟨g, o, none⟩ : Addr).add n = ⟨g, o + n, none⟩ := by unfold Addr.add; split <;> simp_all
def Rd (w : World) (size : Nat) (v : Value) (n : Nat) (xs : List Value) : Prop :=
  xs.length = n * size ∧ n ≤ maxLen ∧ ∃ ao cap, v = .slice ao n cap ∧ n ≤ cap ∧ cap ≤ maxLen ∧ (ao = none → cap = 0) ∧ (n = 0 ∨ ∃ g o, ao = some ⟨g, o, none⟩ ∧ ∀ j u, xs[j]? = some u → w.cell? ⟨g, o + j, none⟩ = some u)
theorem Rd.nil (w : World) (size : Nat) : Rd w size (.slice none 0 0) 0 [] := ⟨by simp, Nat.zero_le _, none, 0, rfl, Nat.le_refl _, Nat.zero_le _, fun _ => rfl, .inl rfl⟩
theorem Rd.frame {w w' : World} {size : Nat} {v : Value} {n : Nat} {xs : List Value} (h : Rd w size v n xs) (hb : ∀ g, v.ownBlock = some g → g < w.heap.size → w'.heap[g]? = w.heap[g]?) : Rd w' size v n xs := by
  obtain ⟨h1, h2, ao, cap, rfl, h3, h4, h5, h6⟩ := h
  refine ⟨h1, h2, ao, cap, rfl, h3, h4, h5, ?_⟩
  rcases h6 with h6 | ⟨g, o, rfl, h6⟩
  · exact .inl h6
  · refine .inr ⟨g, o, rfl, fun j u hu => ?_⟩
    have hc := h6 j u hu
    rw [World.cell?_of_block (w := w) (hb g rfl (World.block_lt_of_cell? w _ hc))]
    exact hc
theorem Rd.kept {S : Nat → Prop} {w w' : World} {size : Nat} {v : Value} {n : Nat} {xs : List Value} (h : Rd w size v n xs) (hk : Kept S w w') (hS : ∀ g, v.ownBlock = some g → ¬ S g) : Rd w' size v n xs :=
  h.frame (fun g hg hl => hk.block g hl (hS g hg))
def Own (w : World) (e : TypeId) (size : Nat) (v : Value) (n : Nat) (xs : List Value) : Prop :=
  xs.length = n * size ∧ (∀ u ∈ xs, u.oneCell' = true) ∧
  ((v = .slice none 0 0 ∧ n = 0) ∨ ∃ g cap cur, v = .slice (some ⟨g, 0, none⟩) n cap ∧ w.heap[g]? = some (.cells cur e (0, 0)) ∧ n ≤ cap ∧ cap ≤ maxLen ∧ cap * size ≤ cur.size ∧ cur.toList.take (n * size) = xs)
theorem Own.nil (w : World) (e : TypeId) (size : Nat) : Own w e size (.slice none 0 0) 0 [] := ⟨by simp, by simp, .inl ⟨rfl, rfl⟩⟩
theorem Own.frame {w w' : World} {e : TypeId} {size : Nat} {v : Value} {n : Nat} {xs : List Value} (h : Own w e size v n xs) (hb : ∀ g, v.ownBlock = some g → g < w.heap.size → w'.heap[g]? = w.heap[g]?) : Own w' e size v n xs := by
  refine ⟨h.1, h.2.1, ?_⟩
  rcases h.2.2 with h1 | ⟨g, cap, cur, rfl, hg, hr⟩
  · exact .inl h1
  · exact .inr ⟨g, cap, cur, rfl, (hb g rfl (aI hg)).trans hg, hr⟩
theorem Own.kept {S : Nat → Prop} {w w' : World} {e : TypeId} {size : Nat} {v : Value} {n : Nat} {xs : List Value} (h : Own w e size v n xs) (hk : Kept S w w') (hS : ∀ g, v.ownBlock = some g → ¬ S g) : Own w' e size v n xs :=
  h.frame (fun g hg hl => hk.block g hl (hS g hg))
theorem Own.lt {w : World} {e : TypeId} {size : Nat} {v : Value} {n : Nat} {xs : List Value} (h : Own w e size v n xs) : ∀ g, v.ownBlock = some g → g < w.heap.size := by
  intro g hg
  rcases h.2.2 with ⟨rfl, _⟩ | ⟨g', cap, cur, rfl, hh, _⟩
  · cases hg
  · simp [Value.ownBlock] at hg; subst hg; exact aI hh
theorem Own.le {w : World} {e : TypeId} {size : Nat} {v : Value} {n : Nat} {xs : List Value} (h : Own w e size v n xs) : n ≤ maxLen := by
  rcases h.2.2 with ⟨_, rfl⟩ | ⟨g', cap, cur, rfl, hh, h1, h2, _⟩
  · exact Nat.zero_le _
  · omega
theorem Own.cells {w : World} {e : TypeId} {size : Nat} {g n cap : Nat} {xs : List Value} (h : Own w e size (.slice (some ⟨g, 0, none⟩) n cap) n xs) : ∀ j u, xs[j]? = some u → w.cell? ⟨g, j, none⟩ = some u := by
  intro j u hu
  rcases h.2.2 with ⟨h1, _⟩ | ⟨g', cap', cur, hv, hh, h1, h2, h3, h4⟩
  · cases h1
  · cases hv
    rw [cell_of_row w g j cur e (0, 0) hh]
    rw [← h4, List.getElem?_take] at hu
    split at hu
    · simpa using hu
    · cases hu
theorem Own.form {w : World} {e : TypeId} {size : Nat} {v : Value} {n : Nat} {xs : List Value} (h : Own w e size v n xs) (hn : 0 < n) : ∃ g cap, v = .slice (some ⟨g, 0, none⟩) n cap ∧ n ≤ cap ∧ cap ≤ maxLen := by
  rcases h.2.2 with ⟨_, h1⟩ | ⟨g, cap, cur, rfl, _, h1, h2, _⟩
  · omega
  · exact ⟨g, cap, rfl, h1, h2⟩
theorem Own.rd {w : World} {e : TypeId} {size : Nat} {v : Value} {n : Nat} {xs : List Value} (h : Own w e size v n xs) : Rd w size v n xs := by
  have h0 := h
  refine ⟨h.1, h.le, ?_⟩
  rcases h.2.2 with ⟨rfl, rfl⟩ | ⟨g, cap, cur, rfl, hh, h1, h2, h3, h4⟩
  · exact ⟨none, 0, rfl, Nat.le_refl _, Nat.zero_le _, fun _ => rfl, .inl rfl⟩
  · exact ⟨some ⟨g, 0, none⟩, cap, rfl, h1, h2, fun h => by simp at h, .inr ⟨g, 0, rfl, fun j u hu => by rw [Nat.zero_add]; exact h0.cells j u hu⟩⟩
theorem Own.cut {w : World} {e : TypeId} {size : Nat} {g n cap : Nat} {xs : List Value} (h : Own w e size (.slice (some ⟨g, 0, none⟩) n cap) n xs) {m c : Nat} (hm : m ≤ n) (hc : m ≤ c) (hc' : c ≤ cap) : Own w e size (.slice (some ⟨g, 0, none⟩) m c) m (xs.take (m * size)) := by
  have hl : m * size ≤ n * size := Nat.mul_le_mul_right _ hm
  have hl2 : c * size ≤ cap * size := Nat.mul_le_mul_right _ hc'
  refine ⟨by rw [List.length_take, h.1]; omega, fun u hu => h.2.1 u (List.mem_of_mem_take hu), ?_⟩
  rcases h.2.2 with ⟨h1, _⟩ | ⟨g', cap', cur, hv, hh, h1, h2, h3, h4⟩
  · cases h1
  · cases hv
    refine .inr ⟨g, c, cur, rfl, hh, hc, by omega, by omega, ?_⟩
    rw [← h4, List.take_take, Nat.min_eq_left hl]
section
variable {P : Program} (w : World)
theorem own_fresh {w0 : World} {e : TypeId} {size n cap : Nat} {xs : List Value} {zs : Array Value} (hx : xs.length = n * size) (h1 : ∀ u ∈ xs, u.oneCell' = true) (hn : n ≤ cap) (hc : cap ≤ maxLen) (hz : zs.size = (cap - n) * size) :
    Own (w0.alloc (.cells (xs.toArray ++ zs) e)) e size (.slice (some ⟨w0.heap.size, 0, none⟩) n cap) n xs := by
  refine ⟨hx, h1, .inr ⟨w0.heap.size, cap, _, rfl, heap_alloc_new w0 _, hn, hc, ?_, ?_⟩⟩
  · simp only [Array.size_append, List.size_toArray, hz, hx, ← Nat.add_mul]
    rw [show n + (cap - n) = cap by omega]
    exact Nat.le_refl _
  · rw [Array.toList_append, ← hx]
    exact List.take_left
theorem ku (t ty : TypeId) (e : TypeId) (i : TypeInfo) (z : Value) (size bytes : Nat) (ht : P.underlying t = some (.slice e)) (hi : P.info? e = some i) (hz : i.zero = some z)
    (hsize : i.size = size) (hby : i.bytes = bytes) (hzs : z.cells.size = size)
    (v : Value) (n : Nat) (xs : List Value) (hown : Own w e size v n xs)
    (ad : Addr) (m c : Nat) (news : List Value) (hl : news.length = m * size) (hnews : ∀ j u, news[j]? = some u → w.cell? (ad.add j) = some u) (h1 : ∀ u ∈ news, u.oneCell' = true)
    (hm : 0 < m) (h63 : n + m ≤ maxLen) (hbytes : (n + m) * bytes ≤ 140737488355328) :
    ∃ g cap w', (Builtin.append_ #[t, t] ty #[v, .slice (some ad) m c]).run P w = .ok (.slice (some ⟨g, 0, none⟩) (n + m) cap) w' ∧
      Own w' e size (.slice (some ⟨g, 0, none⟩) (n + m) cap) (n + m) (xs ++ news) ∧ Kept (fun k => v.ownBlock = some k) w w' ∧ ((v.ownBlock = some g ∧ w'.heap.size = w.heap.size) ∨ (g = w.heap.size ∧ w'.heap.size = w.heap.size + 1)) := by
  subst hsize
  subst hby
  have hlen : (xs ++ news).length = (n + m) * i.size := by rw [List.length_append, hown.1, hl, Nat.add_mul]
  have hone : ∀ u ∈ xs ++ news, u.oneCell' = true := fun u hu => (List.mem_append.1 hu).elim (hown.2.1 u) (h1 u)
  have hsmall : n + m ≤ 9223372036854775807 := by simp only [maxLen] at h63; omega
  have grown : ∀ (old : Nat),
      Own (w.drew.alloc (.cells ((xs ++ news).toArray ++ Builtin.zeroCells z.cells (grownCap w (n + m) old e - (n + m))) e)) e i.size
        (.slice (some ⟨w.heap.size, 0, none⟩) (n + m) (grownCap w (n + m) old e)) (n + m) (xs ++ news) := by
    intro old
    refine own_fresh (w0 := w.drew) hlen hone (grownCap_ge w (n + m) old e) (grownCap_le_maxLen w (n + m) old e h63) ?_
    rw [size_zeroCells, hzs]
  rcases hown.2.2 with ⟨rfl, rfl⟩ | ⟨g, cap, cur, rfl, hg, hnc, hcm, hcs, htake⟩
  · have hx : xs = [] := List.eq_nil_of_length_eq_zero (by simpa using hown.1)
    subst hx
    have hr := run_append_nil (P := P) w t ty e i z ht hi hz ad m c news hl hnews (by omega) (by omega) (by have hb := hbytes; simp only [Nat.zero_add] at hb; omega)
    have hgr := grown 0
    simp only [Nat.zero_add, List.nil_append] at hgr ⊢
    exact ⟨_, _, _, hr, hgr, ⟨rfl, rfl, rfl, by simp, fun k hk _ => Below.heap_alloc w.drew _ k hk⟩, .inr ⟨rfl, by simp⟩⟩
  · by_cases hroom : n + m ≤ cap
    · have hle : (n + m) * i.size ≤ cap * i.size := Nat.mul_le_mul_right _ hroom
      have hfit : n * i.size + news.length ≤ cur.size := by rw [hl, ← Nat.add_mul]; omega
      have hr := run_append_room (P := P) w t ty e i ht hi g n cap cur hg ad m c news hl hnews h1 hroom hfit
      refine ⟨_, _, _, hr, ⟨hlen, hone, .inr ⟨g, cap, _, rfl, setRow_heap w g cur _ e _ hg, hroom, hcm, ?_, ?_⟩⟩, ⟨rfl, rfl, rfl, by simp [World.setRow], fun k _ hk => setRow_other w g k _ (fun e => hk (by simp [Value.ownBlock, e]))⟩, .inl ⟨rfl, by simp [World.setRow]⟩⟩
      · simp only [List.size_toArray, List.length_append, List.length_take, List.length_drop, Array.length_toList]
        omega
      · rw [htake, ← hlen]
        exact List.take_left
    · have holds : ∀ j u, xs[j]? = some u → w.cell? ((⟨g, 0, none⟩ : Addr).add j) = some u := fun j u hu => by rw [bZ, Nat.zero_add]; exact hown.cells j u hu
      have hr := run_append_grow (P := P) w t ty e i z ht hi hz ⟨g, 0, none⟩ n cap xs hown.1 holds ad m c news hl hnews (by omega) (by omega) (growslice_fits (by omega) hbytes)
      have hgr := grown cap
      rw [← List.append_toArray] at hgr
      exact ⟨_, _, _, hr, hgr, ⟨rfl, rfl, rfl, by simp, fun k hk _ => Below.heap_alloc w.drew _ k hk⟩, .inr ⟨rfl, by simp⟩⟩
theorem eC (t ty e : TypeId) (i : TypeInfo) (ht : P.underlying t = some (.slice e)) (hi : P.info? e = some i) (base ao : Option Addr) (n cap c : Nat) (hn : n ≤ cap) :
    (Builtin.append_ #[t, t] ty #[.slice base n cap, .slice ao 0 c]).run P w = .ok (.slice base n cap) w := by
  cases base <;> cases ao <;> simp [Builtin.append_, run_underlying ht, sizeOf, typeInfo, hi, Builtin.lenOf, Builtin.firstCells, loadCells, loadCellsFrom, storeCells, hn]
theorem kP (t ty : TypeId) (e : TypeId) (i : TypeInfo) (z : Value) (size bytes : Nat) (ht : P.underlying t = some (.slice e)) (hi : P.info? e = some i) (hz : i.zero = some z)
    (hsize : i.size = size) (hby : i.bytes = bytes) (hzs : z.cells.size = size)
    (v : Value) (n : Nat) (xs : List Value) (hown : Own w e size v n xs) (x : Value) (m : Nat) (news : List Value) (hx : Rd w size x m news) (h1 : ∀ u ∈ news, u.oneCell' = true)
    (h63 : n + m ≤ maxLen) (hbytes : (n + m) * bytes ≤ 140737488355328) :
    ∃ v' w', (Builtin.append_ #[t, t] ty #[v, x]).run P w = .ok v' w' ∧
      Own w' e size v' (n + m) (xs ++ news) ∧ Kept (fun k => v.ownBlock = some k) w w' ∧ (v'.ownBlock = v.ownBlock ∨ (v'.ownBlock = some w.heap.size ∧ w'.heap.size = w.heap.size + 1)) ∧ (m = 0 → v' = v) ∧ (0 < m → v'.ownBlock ≠ none) := by
  obtain ⟨hl, _, ao, c, rfl, _, _, _, hcell⟩ := hx
  by_cases hm : m = 0
  · subst hm
    have hn : news = [] := List.eq_nil_of_length_eq_zero (by simpa using hl)
    subst hn
    rw [Nat.add_zero, List.append_nil]
    rcases hown.2.2 with ⟨rfl, rfl⟩ | ⟨g, cap, cur, rfl, hg, hnc, _⟩
    · exact ⟨_, w, eC w t ty e i ht hi none ao 0 0 c (Nat.le_refl _), hown, Kept.refl _ _, .inl rfl, fun _ => rfl, fun h => absurd h (by omega)⟩
    · exact ⟨_, w, eC w t ty e i ht hi _ ao n cap c hnc, hown, Kept.refl _ _, .inl rfl, fun _ => rfl, fun h => absurd h (by omega)⟩
  · rcases hcell with h0 | ⟨g0, o0, rfl, hc⟩
    · exact absurd h0 hm
    · obtain ⟨g, cap, w', hr, h2, h3, h4⟩ := ku w t ty e i z size bytes ht hi hz hsize hby hzs v n xs hown ⟨g0, o0, none⟩ m c news hl (fun j u hu => by rw [bZ]; exact hc j u hu) h1 (by omega) h63 hbytes
      refine ⟨_, w', hr, h2, h3, ?_, fun h => absurd h hm, fun _ => by simp [Value.ownBlock]⟩
      rcases h4 with ⟨h4, _⟩ | ⟨h4, h5⟩
      · exact .inl (by rw [h4]; rfl)
      · exact .inr ⟨by rw [h4]; rfl, h5⟩
theorem i3 {ops : Array Oper} {rest : List Oper} {o : Oper} {a : Act} {Q : Exit → Act → World → Prop} (hgd : o.guard = none) (s x : Operand) (t : TypeId)
    (ho : o.op = .call { callee := .builtin .append, args := #[s, x], argTypes := #[t, t] })
    (e : TypeId) (i : TypeInfo) (z : Value) (size bytes : Nat) (ht : P.underlying t = some (.slice e)) (hi : P.info? e = some i) (hz : i.zero = some z)
    (hsize : i.size = size) (hby : i.bytes = bytes) (hzs : z.cells.size = size)
    (v : Value) (n : Nat) (xs : List Value) (hs : a.eval s = v) (hown : Own w e size v n xs) (xv : Value) (m : Nat) (news : List Value) (hx : a.eval x = xv) (hrd : Rd w size xv m news) (h1 : ∀ u ∈ news, u.oneCell' = true)
    (h63 : n + m ≤ maxLen) (hbytes : (n + m) * bytes ≤ 140737488355328)
    (h : ∀ v' w', Own w' e size v' (n + m) (xs ++ news) → Kept (fun k => v.ownBlock = some k) w w' → (v'.ownBlock = v.ownBlock ∨ (v'.ownBlock = some w.heap.size ∧ w'.heap.size = w.heap.size + 1)) → (m = 0 → v' = v) → (0 < m → v'.ownBlock ≠ none) →
      wpList P ops Q rest (a.put o.dst v') w') : wpList P ops Q (o :: rest) a w :=
  wpList_plain hgd fun _ hK => by
    obtain ⟨v', w', hr, h2, h3, h4, h5, h6⟩ := kP (P := P) w t o.type e i z size bytes ht hi hz hsize hby hzs v n xs hown xv m news hrd h1 h63 hbytes
    unfold Oper.wp execOp
    simp only [ho, resolve, invoke, builtin, Sem.run_bind, Sem.run_pure, Result.andThen_ok, List.map_toArray, List.map_cons, List.map_nil, hs, hx, hr]
    exact hK _ _ (h v' w' h2 h3 h4 h5 h6)
end
theorem aM {w : World} {b : Nat} {t : TypeId} {x0 : Value} (h : w.heap[b]? = some (.cells #[x0] t (0, 0))) :
    w.cell? ⟨b, 0, none⟩ = some x0 ∧ (∀ j, w.frozen? ⟨b, j, none⟩ = false) := by
  refine ⟨?_, fun j => ?_⟩
  all_goals first | (rw [cell_of_row w b _ _ _ _ h]; rfl) | simp [World.frozen?, h]
theorem aH {w : World} {b : Nat} {t : TypeId} {x0 x1 : Value} (h : w.heap[b]? = some (.cells #[x0, x1] t (0, 0))) :
    w.cell? ⟨b, 0, none⟩ = some x0 ∧ w.cell? ⟨b, 1, none⟩ = some x1 ∧ (∀ j, w.frozen? ⟨b, j, none⟩ = false) := by
  refine ⟨?_, ?_, fun j => ?_⟩
  all_goals first | (rw [cell_of_row w b _ _ _ _ h]; rfl) | simp [World.frozen?, h]
theorem fV {w : World} {b : Nat} {t : TypeId} {x0 x1 x2 : Value} (h : w.heap[b]? = some (.cells #[x0, x1, x2] t (0, 0))) :
    w.cell? ⟨b, 0, none⟩ = some x0 ∧ w.cell? ⟨b, 1, none⟩ = some x1 ∧ w.cell? ⟨b, 2, none⟩ = some x2 ∧ (∀ j, w.frozen? ⟨b, j, none⟩ = false) := by
  refine ⟨?_, ?_, ?_, fun j => ?_⟩
  all_goals first | (rw [cell_of_row w b _ _ _ _ h]; rfl) | simp [World.frozen?, h]
theorem bA {w : World} {b : Nat} {t : TypeId} {x0 x1 x2 x3 : Value} (h : w.heap[b]? = some (.cells #[x0, x1, x2, x3] t (0, 0))) :
    w.cell? ⟨b, 0, none⟩ = some x0 ∧ w.cell? ⟨b, 1, none⟩ = some x1 ∧ w.cell? ⟨b, 2, none⟩ = some x2 ∧ w.cell? ⟨b, 3, none⟩ = some x3 ∧ (∀ j, w.frozen? ⟨b, j, none⟩ = false) := by
  refine ⟨?_, ?_, ?_, ?_, fun j => ?_⟩
  all_goals first | (rw [cell_of_row w b _ _ _ _ h]; rfl) | simp [World.frozen?, h]
theorem a7 {w : World} {b : Nat} {t : TypeId} {x0 x1 x2 x3 x4 x5 : Value} (h : w.heap[b]? = some (.cells #[x0, x1, x2, x3, x4, x5] t (0, 0))) :
    w.cell? ⟨b, 0, none⟩ = some x0 ∧ w.cell? ⟨b, 1, none⟩ = some x1 ∧ w.cell? ⟨b, 2, none⟩ = some x2 ∧ w.cell? ⟨b, 3, none⟩ = some x3 ∧ w.cell? ⟨b, 4, none⟩ = some x4 ∧ w.cell? ⟨b, 5, none⟩ = some x5 ∧ (∀ j, w.frozen? ⟨b, j, none⟩ = false) := by
  refine ⟨?_, ?_, ?_, ?_, ?_, ?_, fun j => ?_⟩
  all_goals first | (rw [cell_of_row w b _ _ _ _ h]; rfl) | simp [World.frozen?, h]
def RowV (w : World) (g : Nat) (e : TypeId) (z : Nat) (xs : List Value) : Prop := ∃ cur, w.heap[g]? = some (.cells cur e (0, 0)) ∧ cur.size = z ∧ cur.toList.take xs.length = xs
theorem RowV.cell {w : World} {g : Nat} {e : TypeId} {z : Nat} {xs : List Value} (h : RowV w g e z xs) {j : Nat} {u : Value} (hu : xs[j]? = some u) : w.cell? ⟨g, j, none⟩ = some u := by
  obtain ⟨cur, h1, _, h2⟩ := h
  rw [cell_of_row w g j cur e (0, 0) h1]
  rw [← h2, List.getElem?_take] at hu
  split at hu
  · simpa using hu
  · cases hu
theorem RowV.frozen {w : World} {g : Nat} {e : TypeId} {z : Nat} {xs : List Value} (h : RowV w g e z xs) (j : Nat) : w.frozen? ⟨g, j, none⟩ = false := by
  obtain ⟨cur, h1, _⟩ := h
  simp [World.frozen?, h1]
theorem RowV.set {w : World} {g : Nat} {e : TypeId} {z : Nat} {xs : List Value} (h : RowV w g e z xs) (j : Nat) (u : Value) : RowV (w.setCell ⟨g, j, none⟩ u) g e z (xs.set j u) := by
  obtain ⟨cur, h1, h2, h3⟩ := h
  have hlt := aI h1
  have hv : w.heap[g] = .cells cur e (0, 0) := (Array.getElem?_eq_some_iff.1 h1).2
  refine ⟨cur.setIfInBounds j u, ?_, by simpa using h2, ?_⟩
  · simp only [World.setCell, Array.getElem?_modify, if_true, h1, Option.map_some]
    simp
  · rw [Array.toList_setIfInBounds, List.length_set, List.take_set, h3]
theorem RowV.frame {w w' : World} {g : Nat} {e : TypeId} {z : Nat} {xs : List Value} (h : RowV w g e z xs) (hb : w'.heap[g]? = w.heap[g]?) : RowV w' g e z xs := by
  obtain ⟨cur, h1, h2⟩ := h
  exact ⟨cur, hb.trans h1, h2⟩
theorem RowV.drew {w : World} {g : Nat} {e : TypeId} {z : Nat} {xs : List Value} (h : RowV w g e z xs) : RowV w.drew g e z xs := h
theorem Own.drew {w : World} {e : TypeId} {size : Nat} {v : Value} {n : Nat} {xs : List Value} (h : Own w e size v n xs) : Own w.drew e size v n xs := h
theorem Rd.drew {w : World} {size : Nat} {v : Value} {n : Nat} {xs : List Value} (h : Rd w size v n xs) : Rd w.drew size v n xs := h
theorem Own.row {w : World} {e : TypeId} {size g n cap : Nat} {xs : List Value} (h : Own w e size (.slice (some ⟨g, 0, none⟩) n cap) n xs) : ∃ z, cap * size ≤ z ∧ RowV w g e z xs := by
  have hl := h.1
  rcases h.2.2 with ⟨h1, _⟩ | ⟨g', cap', cur, hv, hh, h1, h2, h3, h4⟩
  · cases h1
  · cases hv
    exact ⟨cur.size, h3, cur, hh, rfl, by rw [hl, h4]⟩
theorem RowV.own {w : World} {e : TypeId} {size g n cap z : Nat} {xs : List Value} (h : RowV w g e z xs) (hl : xs.length = n * size) (h1 : ∀ u ∈ xs, u.oneCell' = true) (hn : n ≤ cap) (hc : cap ≤ maxLen) (hz : cap * size ≤ z) : Own w e size (.slice (some ⟨g, 0, none⟩) n cap) n xs := by
  obtain ⟨cur, h2, h3, h4⟩ := h
  exact ⟨hl, h1, .inr ⟨g, cap, cur, rfl, h2, hn, hc, by omega, by rw [← hl]; exact h4⟩⟩
theorem js {w : World} {b j : Nat} {cs : Array Value} {t : TypeId} {fr : Nat × Nat} (h : w.heap[b]? = some (.cells cs t fr)) (v : Value) : (w.setCell ⟨b, j, none⟩ v).heap[b]? = some (.cells (cs.setIfInBounds j v) t fr) := by
  have hlt := aI h
  have hv : w.heap[b] = .cells cs t fr := (Array.getElem?_eq_some_iff.1 h).2
  simp only [World.setCell, Array.getElem?_modify, if_true, h, Option.map_some]
  simp
theorem db {w : World} {b : Nat} {o x : Obj} (h : w.heap[b]? = some x) : (w.alloc o).heap[b]? = some x := by rw [Below.heap_alloc _ _ _ (aI h)]; exact h
theorem aB (w : World) (o : Obj) : (w.alloc o).heap[w.heap.size]? = some o := by show (w.heap.push o)[w.heap.size]? = _; simp
end Go.Proofs.YtgljdkjepdknnaaGreatDoor
namespace Go.Proofs.YtgljdkjepdknnaaGreatDoor
open Go.ChangeShapes Go.WideShapes Go.ChangeAt Go.RowKit
section
variable {P : Program} {ops : Array Oper} {Q : Exit → Act → World → Prop}
theorem aw {a : Act} {w : World} {rest : List Oper} {o : Oper} (hw : Region.wanted o (yielded ops a.tmps) = true) (h : ∀ K : Act → World → Prop, (∀ b w', wpList P ops Q rest b w' → K b w') → o.wp P a w K Q) : wpList P ops Q (o :: rest) a w := by
  unfold wpList
  rw [if_pos hw]
  exact .inl (h _ (fun _ _ h => h))
theorem bI {a : Act} {w : World} {rest : List Oper} {o : Oper} (hw : Region.wanted o (yielded ops a.tmps) = false) (h : wpList P ops Q rest (a.put o.dst undef) w) : wpList P ops Q (o :: rest) a w := by
  unfold wpList
  rw [if_neg (by simp [hw])]
  exact h
end
abbrev PH := Nat → Option Obj
def PH.le (h k : PH) : Prop := ∀ b o, h b = some o → k b = some o
abbrev HP := PH → Prop
def cD (w : World) : PH := fun b => w.heap[b]?
theorem PH.le.none (h : PH) : PH.le (fun _ => Option.none) h := fun _ _ e => by cases e
theorem PH.le.refl (h : PH) : PH.le h h := fun _ _ h => h
theorem PH.le.trans {h k m : PH} (a : PH.le h k) (b : PH.le k m) : PH.le h m := fun x o e => b x o (a x o e)
def Holds : List HP → PH → Prop
  | [], _ => True
  | A :: l, h => ∃ h1 h2 : PH, (∀ b, h1 b = none ∨ h2 b = none) ∧ PH.le h1 h ∧ PH.le h2 h ∧ A h1 ∧ Holds l h2
theorem Holds.mono : ∀ {l : List HP} {h k : PH}, PH.le h k → Holds l h → Holds l k
  | [], _, _, _, _ => trivial
  | _ :: _, _, _, hk, ⟨h1, h2, a, b, c, d, e⟩ => ⟨h1, h2, a, b.trans hk, c.trans hk, d, e⟩
theorem Holds.swap {A C : HP} {l : List HP} {h : PH} (H : Holds (A :: C :: l) h) : Holds (C :: A :: l) h := by
  obtain ⟨h1, h2, a, b, c, d, k1, k2, a', b', c', d', e'⟩ := H
  have f : ∀ {x : Nat} {o : Obj}, k1 x = some o → h1 x = none := fun {x o} e => by
    rcases a x with g | g
    · exact g
    · have := b' x o e; rw [g] at this; cases this
  refine ⟨k1, fun x => if (h1 x).isSome then h1 x else k2 x, fun x => ?_, b'.trans c, fun x o e => ?_, d', h1, k2, fun x => ?_, fun x o e => by simp [e], fun x o e => ?_, d, e'⟩
  · cases hk : k1 x with
    | none => exact .inl rfl
    | some o =>
      refine .inr ?_
      have h0 := f hk
      simp only [h0, Option.isSome_none, Bool.false_eq_true, if_false]
      rcases a' x with g | g
      · rw [g] at hk; cases hk
      · exact g
  · dsimp only at e
    split at e
    · exact b x o e
    · exact c x o (c' x o e)
  · rcases a x with g | g
    · exact .inl g
    · refine .inr ?_
      cases hk : k2 x with
      | none => rfl
      | some o => have := c' x o hk; rw [g] at this; cases this
  · dsimp only
    have h0 : h1 x = none := by
      rcases a x with g | g
      · exact g
      · have := c' x o e; rw [g] at this; cases this
    simp only [h0, Option.isSome_none, Bool.false_eq_true, if_false, e]
theorem Holds.cons {A : HP} {l l' : List HP} (f : ∀ h, Holds l h → Holds l' h) {h : PH} (H : Holds (A :: l) h) : Holds (A :: l') h := by
  obtain ⟨h1, h2, a, b, c, d, e⟩ := H
  exact ⟨h1, h2, a, b, c, d, f _ e⟩
theorem Holds.perm {l l' : List HP} (p : l.Perm l') : ∀ {h : PH}, Holds l h → Holds l' h := by
  induction p with
  | nil => exact fun H => H
  | cons A _ ih => exact fun H => H.cons (fun _ => ih)
  | swap A C l => exact fun H => H.swap
  | trans _ _ ih1 ih2 => exact fun H => ih2 (ih1 H)
theorem Holds.app : ∀ {l m : List HP} {h h1 h2 : PH}, (∀ b, h1 b = none ∨ h2 b = none) → PH.le h1 h → PH.le h2 h → Holds l h1 → Holds m h2 → Holds (l ++ m) h
  | [], _, _, _, _, _, _, c, _, H => H.mono c
  | A :: l, m, h, h1, h2, a, b, c, ⟨k1, k2, a', b', c', d', e'⟩, H => by
    refine ⟨k1, fun x => if (h2 x).isSome then h2 x else k2 x, fun x => ?_, b'.trans b, fun x o e => ?_, d', Holds.app (h1 := k2) (h2 := h2) (fun x => ?_) (fun x o e => ?_) (fun x o e => by simp [e]) e' H⟩
    · cases hk : k1 x with
      | none => exact .inl rfl
      | some o =>
        refine .inr ?_
        have h0 : h2 x = none := by
          rcases a x with g | g
          · have := b' x o hk; rw [g] at this; cases this
          · exact g
        simp only [h0, Option.isSome_none, Bool.false_eq_true, if_false]
        rcases a' x with g | g
        · rw [g] at hk; cases hk
        · exact g
    · dsimp only at e
      split at e
      · exact c x o e
      · exact b x o (c' x o e)
    · rcases a x with g | g
      · refine .inl ?_
        cases hk : k2 x with
        | none => rfl
        | some o => have := c' x o hk; rw [g] at this; cases this
      · exact .inr g
    · have h0 : h2 x = none := by
        rcases a x with g | g
        · have := c' x o e; rw [g] at this; cases this
        · exact g
      simp only [h0, Option.isSome_none, Bool.false_eq_true, if_false, e]
theorem Holds.part : ∀ {l m : List HP} {h : PH}, Holds (l ++ m) h → ∃ h1 h2 : PH, (∀ b, h1 b = none ∨ h2 b = none) ∧ PH.le h1 h ∧ PH.le h2 h ∧ Holds l h1 ∧ Holds m h2
  | [], m, h, H => ⟨fun _ => none, h, fun _ => .inl rfl, PH.le.none _, PH.le.refl _, trivial, H⟩
  | A :: l, m, h, ⟨k1, k2, a', b', c', d', e'⟩ => by
    obtain ⟨h1, h2, a, b, c, d, e⟩ := Holds.part (l := l) e'
    refine ⟨fun x => if (k1 x).isSome then k1 x else h1 x, h2, fun x => ?_, fun x o e => ?_, c.trans c', ⟨k1, h1, fun x => ?_, fun x o e => by simp [e], fun x o e => ?_, d', d⟩, e⟩
    · cases hk : h2 x with
      | none => exact .inr rfl
      | some o =>
        refine .inl ?_
        have hk2 := c x o hk
        have h0 : k1 x = none := by
          rcases a' x with g | g
          · exact g
          · rw [g] at hk2; cases hk2
        dsimp only
        simp only [h0, Option.isSome_none, Bool.false_eq_true, if_false]
        rcases a x with g | g
        · exact g
        · rw [g] at hk; cases hk
    · dsimp only at e
      split at e
      · exact b' x o e
      · exact c' x o (b x o e)
    · rcases a' x with g | g
      · exact .inl g
      · refine .inr ?_
        cases hk : h1 x with
        | none => rfl
        | some o => have := b x o hk; rw [g] at this; cases this
    · dsimp only
      have h0 : k1 x = none := by
        rcases a' x with g | g
        · exact g
        · have := b x o e; rw [g] at this; cases this
      simp only [h0, Option.isSome_none, Bool.false_eq_true, if_false, e]
def pz (l : List HP) : HP := fun h => Holds l h
theorem Holds.ungroup {L l : List HP} {h : PH} (H : Holds (pz L :: l) h) : Holds (L ++ l) h := by
  obtain ⟨h1, h2, a, b, c, d, e⟩ := H
  exact Holds.app a b c d e
theorem Holds.togroup {L l : List HP} {h : PH} (H : Holds (L ++ l) h) : Holds (pz L :: l) h := by
  obtain ⟨h1, h2, a, b, c, d, e⟩ := H.part
  exact ⟨h1, h2, a, b, c, d, e⟩
theorem j8 {α : Type} (A' : α) : ∀ (l : List α) (i : Nat) (A : α), l[i]? = some A → (l.set i A').Perm (A' :: l.eraseIdx i)
  | [], _, _, h => by simp at h
  | x :: l, 0, _, _ => by simp
  | x :: l, i + 1, A, h => by
    simp only [BQ, List.eraseIdx_cons_succ]
    exact ((j8 A' l i A (by simpa using h)).cons x).trans (List.Perm.swap _ _ _)
theorem mQ {α : Type} (l : List α) (i : Nat) (A : α) (h : l[i]? = some A) : l.Perm (A :: l.eraseIdx i) := by
  have := j8 A l i A h
  have e : l.set i A = l := by
    obtain ⟨hi, rfl⟩ := List.getElem?_eq_some_iff.1 h
    exact List.set_getElem_self hi
  rwa [e] at this
structure Sat (B : World) (D : PH) (w : World) (l : List HP) : Prop where
  os : w.os = B.os
  tape : w.tape = B.tape
  output : w.output = B.output
  size : B.heap.size ≤ w.heap.size
  holds : Holds ((fun h => PH.le D h) :: l) (cD w)
section
variable {B w w' : World} {D : PH} {l : List HP}
theorem Sat.start (w : World) : Sat w (cD w) w [] := ⟨rfl, rfl, rfl, Nat.le_refl _, ⟨cD w, fun _ => none, fun _ => .inr rfl, PH.le.refl _, PH.le.none _, PH.le.refl _, trivial⟩⟩
theorem Sat.pool (hs : Sat B D w l) : PH.le D (cD w) := by
  obtain ⟨h1, h2, a, b, c, d, e⟩ := hs.holds
  exact PH.le.trans d b
theorem Sat.end_ (hs : Sat B D w l) (hD : PH.le (cD B) D) : Kept (fun _ => False) B w :=
  ⟨hs.os, hs.tape, hs.output, hs.size, fun k hk _ => by
    have e : B.heap[k]? = some B.heap[k] := Array.getElem?_eq_getElem hk
    rw [e]; exact hs.pool k _ (hD k _ e)⟩
theorem Sat.perm {l' : List HP} (hs : Sat B D w l) (p : l.Perm l') : Sat B D w l' := ⟨hs.os, hs.tape, hs.output, hs.size, hs.holds.perm (p.cons _)⟩
theorem Sat.front (hs : Sat B D w l) (i : Nat) {A : HP} (h : l[i]? = some A) : Sat B D w (A :: l.eraseIdx i) := hs.perm (mQ l i A h)
theorem Sat.modify (hs : Sat B D w l) (i : Nat) {A A' : HP} (h : l[i]? = some A) (f : ∀ l', Sat B D w (A :: l') → Sat B D w' (A' :: l')) : Sat B D w' (l.set i A') :=
  (f _ (hs.front i h)).perm (j8 A' l i A h).symm
theorem Sat.hide (hs : Sat B D w l) : ∃ W, W = w ∧ Sat B D W l := ⟨w, rfl, hs⟩
theorem Sat.swap {A C : HP} (hs : Sat B D w (A :: C :: l)) : Sat B D w (C :: A :: l) := hs.perm (List.Perm.swap _ _ _)
theorem Sat.rot {A C E : HP} (hs : Sat B D w (A :: C :: E :: l)) : Sat B D w (C :: E :: A :: l) := hs.perm ((List.Perm.swap _ _ _).trans ((List.Perm.swap _ _ _).cons _))
theorem Sat.drop {A : HP} (hs : Sat B D w (A :: l)) : Sat B D w l := ⟨hs.os, hs.tape, hs.output, hs.size, by
  obtain ⟨h1, h2, a, b, c, d, e⟩ := hs.holds.swap
  exact e.mono c⟩
theorem Sat.less {D' : PH} (hs : Sat B D w l) (h : PH.le D' D) : Sat B D' w l := ⟨hs.os, hs.tape, hs.output, hs.size, by
  obtain ⟨h1, h2, a, b, c, d, e⟩ := hs.holds
  exact ⟨h1, h2, a, b, c, h.trans d, e⟩⟩
theorem Sat.weaken {A A' : HP} (hs : Sat B D w (A :: l)) (f : ∀ h, A h → A' h) : Sat B D w (A' :: l) := ⟨hs.os, hs.tape, hs.output, hs.size, by
  obtain ⟨h1, h2, a, b, c, d, e⟩ := hs.holds.swap
  exact Holds.swap ⟨h1, h2, a, b, c, f _ d, e⟩⟩
theorem Sat.ungroup {L : List HP} (hs : Sat B D w (pz L :: l)) : Sat B D w (L ++ l) := ⟨hs.os, hs.tape, hs.output, hs.size, hs.holds.cons (fun _ => Holds.ungroup)⟩
theorem Sat.togroup {L : List HP} (hs : Sat B D w (L ++ l)) : Sat B D w (pz L :: l) := ⟨hs.os, hs.tape, hs.output, hs.size, hs.holds.cons (fun _ => Holds.togroup)⟩
def exP {α : Type} (p : α → Prop) (L : α → List HP) : HP := fun h => ∃ x, p x ∧ Holds (L x) h
theorem Sat.open_ex {α : Type} {p : α → Prop} {L : α → List HP} (hs : Sat B D w (exP p L :: l)) : ∃ x, p x ∧ Sat B D w (L x ++ l) := by
  obtain ⟨h1, h2, a, b, c, ⟨x, hx, d⟩, e⟩ := hs.holds.swap
  exact ⟨x, hx, Sat.ungroup ⟨hs.os, hs.tape, hs.output, hs.size, Holds.swap ⟨h1, h2, a, b, c, d, e⟩⟩⟩
theorem Sat.close_ex {α : Type} {p : α → Prop} {L : α → List HP} (x : α) (hx : p x) (hs : Sat B D w (L x ++ l)) : Sat B D w (exP p L :: l) :=
  hs.togroup.weaken (fun _ d => ⟨x, hx, d⟩)
theorem Sat.step {A A' : HP} (hs : Sat B D w (A :: l)) (hk : ∀ h1, PH.le h1 (cD w) → A h1 → Kept (fun k => h1 k ≠ none) w w' ∧ ∃ h1', PH.le h1' (cD w') ∧ A' h1' ∧ ∀ b o, h1' b = some o → h1 b ≠ none ∨ w.heap.size ≤ b) : Sat B D w' (A' :: l) := by
  obtain ⟨h1, h2, a, b, c, d, e⟩ := hs.holds.swap
  obtain ⟨k, h1', k1, k2, k3⟩ := hk h1 b d
  refine ⟨k.os.trans hs.os, k.tape.trans hs.tape, k.output.trans hs.output, Nat.le_trans hs.size k.size, Holds.swap ⟨h1', h2, fun x => ?_, k1, fun x o hx => ?_, k2, e⟩⟩
  · cases hx : h1' x with
    | none => exact .inl rfl
    | some o =>
      refine .inr ?_
      rcases k3 x o hx with g | g
      · rcases a x with g' | g'
        · exact absurd g' g
        · exact g'
      · cases h2x : h2 x with
        | none => rfl
        | some o => exact absurd (aI (c x o h2x)) (by omega)
  · have h0 := c x o hx
    show w'.heap[x]? = some o
    rw [k.block x (aI h0) (fun g => ?_)]
    · exact h0
    · rcases a x with g' | g'
      · exact g g'
      · rw [g'] at hx; cases hx
theorem Sat.new {A' : HP} (hs : Sat B D w l) (k : Kept (fun _ => False) w w') (h1' : PH) (k1 : PH.le h1' (cD w')) (k2 : A' h1') (k3 : ∀ b o, h1' b = some o → w.heap.size ≤ b) : Sat B D w' (A' :: l) := by
  refine ⟨k.os.trans hs.os, k.tape.trans hs.tape, k.output.trans hs.output, Nat.le_trans hs.size k.size, Holds.swap ⟨h1', cD w, fun x => ?_, k1, fun x o hx => ?_, k2, hs.holds⟩⟩
  · cases hx : h1' x with
    | none => exact .inl rfl
    | some o => exact .inr (Array.getElem?_eq_none (by have := k3 x o hx; omega))
  · show w'.heap[x]? = some o
    rw [k.block x (aI hx) (fun g => g)]
    exact hx
theorem Sat.kept (hs : Sat B D w l) (k : Kept (fun _ => False) w w') : Sat B D w' l :=
  (hs.new (A' := fun _ => True) k (fun _ => none) (fun _ _ e => by cases e) trivial (fun _ _ e => by cases e)).drop
theorem Sat.drew (hs : Sat B D w l) : Sat B D w.drew l := ⟨hs.os, hs.tape, hs.output, hs.size, hs.holds⟩
theorem Sat.drewN (hs : Sat B D w l) (n : Nat) : Sat B D (w.drewN n) l := ⟨hs.os, hs.tape, hs.output, hs.size, hs.holds⟩
theorem Sat.give {A : HP} (hs : Sat B D w (A :: l)) : ∃ D' h1, A h1 ∧ PH.le h1 D' ∧ PH.le D D' ∧ Sat B D' w l := by
  obtain ⟨h1, h2, a, b, c, d, k1, k2, a', b', c', d', e'⟩ := hs.holds
  refine ⟨fun x => if (D x).isSome then D x else k1 x, k1, d', fun x o e => ?_, fun x o e => by simp [e], hs.os, hs.tape, hs.output, hs.size, fun x => if (h1 x).isSome then h1 x else k1 x, k2, fun x => ?_, fun x o e => ?_, c'.trans c, fun x o e => ?_, e'⟩
  · dsimp only
    have h0 : D x = none := by
      cases hD : D x with
      | none => rfl
      | some o' => rcases a x with g | g
                   · have := d x o' hD; rw [g] at this; cases this
                   · have := b' x o e; rw [g] at this; cases this
    simp only [h0, Option.isSome_none, Bool.false_eq_true, if_false, e]
  · cases hk : k2 x with
    | none => exact .inr rfl
    | some o =>
      refine .inl ?_
      have h0 : h1 x = none := by
        rcases a x with g | g
        · exact g
        · have := c' x o hk; rw [g] at this; cases this
      dsimp only
      simp only [h0, Option.isSome_none, Bool.false_eq_true, if_false]
      rcases a' x with g | g
      · exact g
      · rw [g] at hk; cases hk
  · dsimp only at e
    split at e
    · exact b x o e
    · exact c x o (b' x o e)
  · dsimp only at e ⊢
    split at e
    · rw [d x o e]; rfl
    · have h0 : h1 x = none := by
        rcases a x with g | g
        · exact g
        · have := b' x o e; rw [g] at this; cases this
      simp only [h0, Option.isSome_none, Bool.false_eq_true, if_false, e]
def blk (b : Nat) (cs : Array Value) (t : TypeId) : HP := fun h => h b = some (.cells cs t (0, 0))
def one (b : Nat) (o : Obj) : PH := fun x => if x = b then some o else none
theorem oz {b : Nat} {o : Obj} {h : PH} (e : h b = some o) : PH.le (one b o) h := fun x o' hx => by
  unfold one at hx; split at hx
  · rename_i h0; subst h0; cases hx; exact e
  · cases hx
theorem jP (b : Nat) (o : Obj) : one b o b = some o := by simp [one]
theorem kx {b x : Nat} {o o' : Obj} (h : one b o x = some o') : x = b := by unfold one at h; split at h; assumption; cases h
theorem Sat.get (hs : Sat B D w l) (i : Nat) {A : HP} (h : l[i]? = some A) : ∃ h1, PH.le h1 (cD w) ∧ A h1 := by
  obtain ⟨h1, h2, a, b, c, d, e⟩ := (hs.front i h).holds.swap
  exact ⟨h1, b, d⟩
theorem Sat.blk (hs : Sat B D w l) (i : Nat) {b : Nat} {cs : Array Value} {t : TypeId} (h : l[i]? = some (blk b cs t)) : w.heap[b]? = some (.cells cs t (0, 0)) := by
  obtain ⟨h1, b, d⟩ := hs.get i h
  exact b _ _ d
theorem Sat.alloc (hs : Sat B D w l) (cs : Array Value) (t : TypeId) : Sat B D (w.alloc (.cells cs t)) (Proofs.YtgljdkjepdknnaaGreatDoor.blk w.heap.size cs t :: l) :=
  hs.new ((Kept.refl _ _).alloc _) (one w.heap.size (.cells cs t)) (oz (aB w _)) (jP _ _) (fun b o h => by rw [kx h]; exact Nat.le_refl _)
theorem Sat.set {b : Nat} {cs : Array Value} {t : TypeId} (hs : Sat B D w (Proofs.YtgljdkjepdknnaaGreatDoor.blk b cs t :: l)) (j : Nat) (u : Value) : Sat B D (w.setCell ⟨b, j, none⟩ u) (Proofs.YtgljdkjepdknnaaGreatDoor.blk b (cs.setIfInBounds j u) t :: l) :=
  hs.step fun h1 le hA => ⟨(Kept.set_at w b j u).mono (fun k _ e => by rw [e, hA]; simp), one b (.cells (cs.setIfInBounds j u) t), oz (js (le _ _ hA) u), jP _ _, fun b' o h => .inl (by rw [kx h, hA]; simp)⟩
theorem Sat.heap_blk {b : Nat} {cs : Array Value} {t : TypeId} (hs : Sat B D w (Proofs.YtgljdkjepdknnaaGreatDoor.blk b cs t :: l)) : w.heap[b]? = some (.cells cs t (0, 0)) := hs.blk 0 rfl
theorem Sat.ne (hs : Sat B D w l) (i j : Nat) {b b' : Nat} {cs cs' : Array Value} {t t' : TypeId} (hij : i ≠ j) (h : l[i]? = some (Proofs.YtgljdkjepdknnaaGreatDoor.blk b cs t)) (h' : l[j]? = some (Proofs.YtgljdkjepdknnaaGreatDoor.blk b' cs' t')) : b ≠ b' := by
  intro e
  subst e
  have hj : (l.eraseIdx i)[if j < i then j else j - 1]? = some (Proofs.YtgljdkjepdknnaaGreatDoor.blk b cs' t') := by
    by_cases hlt : j < i
    · rw [if_pos hlt, List.getElem?_eraseIdx_of_lt hlt, h']
    · rw [if_neg hlt, List.getElem?_eraseIdx_of_ge (by omega), show j - 1 + 1 = j by omega, h']
  obtain ⟨h1, h2, a, b', c, d, e⟩ := (hs.front i h).holds.swap
  have hs2 : Sat B D w (l.eraseIdx i) := (hs.front i h).drop
  obtain ⟨k1, k2, a', b'', c', d', e'⟩ := Holds.perm (((mQ _ _ _ hj).cons _).trans (List.Perm.swap _ _ _)) e
  rcases a b with g | g
  · exact absurd (d.symm.trans g) (by simp)
  · have := b'' _ _ d'; rw [g] at this; cases this
def aJ (e : TypeId) (size : Nat) (v : Value) (n : Nat) (xs : List Value) : HP := fun h =>
  xs.length = n * size ∧ (∀ u ∈ xs, u.oneCell' = true) ∧
  ((v = .slice none 0 0 ∧ n = 0) ∨ ∃ g cap cur, v = .slice (some ⟨g, 0, none⟩) n cap ∧ h g = some (.cells cur e (0, 0)) ∧ n ≤ cap ∧ cap ≤ maxLen ∧ cap * size ≤ cur.size ∧ cur.toList.take (n * size) = xs)
variable {e : TypeId} {size : Nat} {v v' : Value} {n n' : Nat} {xs xs' : List Value}
theorem qy {h : PH} (le : PH.le h (cD w)) (H : aJ e size v n xs h) : Own w e size v n xs := by
  refine ⟨H.1, H.2.1, ?_⟩
  rcases H.2.2 with h1 | ⟨g, cap, cur, h1, h2, h3⟩
  · exact .inl h1
  · exact .inr ⟨g, cap, cur, h1, le _ _ h2, h3⟩
theorem qg {h : PH} (H : Own w e size v n xs) (hh : ∀ g o, v.ownBlock = some g → w.heap[g]? = some o → h g = some o) : aJ e size v n xs h := by
  refine ⟨H.1, H.2.1, ?_⟩
  rcases H.2.2 with h1 | ⟨g, cap, cur, h1, h2, h3⟩
  · exact .inl h1
  · exact .inr ⟨g, cap, cur, h1, hh g _ (by rw [h1]; rfl) h2, h3⟩
theorem Sat.own (hs : Sat B D w l) (i : Nat) (h : l[i]? = some (aJ e size v n xs)) : Own w e size v n xs := by
  obtain ⟨h1, b, d⟩ := hs.get i h
  exact qy b d
theorem Sat.own_shape (hs : Sat B D w (aJ e size v n xs :: l)) : ∃ ao cap, v = .slice ao n cap := by
  obtain ⟨ao, cap, h, _⟩ := (hs.own 0 rfl).rd.2.2
  exact ⟨ao, cap, h⟩
theorem Sat.own_nil (hs : Sat B D w l) (e : TypeId) (size : Nat) : Sat B D w (aJ e size (.slice none 0 0) 0 [] :: l) :=
  hs.new (Kept.refl _ _) (fun _ => none) (fun _ _ e => by cases e) ⟨by simp, by simp, .inl ⟨rfl, rfl⟩⟩ (fun _ _ e => by cases e)
def kh (w : World) (v : Value) : PH := fun b => if v.ownBlock = some b then w.heap[b]? else none
theorem sJ (w : World) (v : Value) : PH.le (kh w v) (cD w) := fun b o h => by unfold kh at h; split at h; exact h; cases h
theorem oS {w : World} {v : Value} {b : Nat} {o : Obj} (h : kh w v b = some o) : v.ownBlock = some b := by unfold kh at h; split at h; assumption; cases h
theorem qw (H : Own w e size v n xs) : aJ e size v n xs (kh w v) := qg H (fun g _ h1 h2 => by unfold kh; rw [if_pos h1]; exact h2)
theorem Sat.own_step (hs : Sat B D w (aJ e size v n xs :: l)) (k : Kept (fun k => v.ownBlock = some k) w w') (H : Own w' e size v' n' xs') (hn : v'.ownBlock = v.ownBlock ∨ ∀ g, v'.ownBlock = some g → w.heap.size ≤ g) : Sat B D w' (aJ e size v' n' xs' :: l) := by
  refine hs.step fun h1 le hA => ⟨k.mono (fun x hx hv => ?_), kh w' v', sJ _ _, qw H, fun b o hb => ?_⟩
  all_goals
    have f : ∀ x, v.ownBlock = some x → h1 x ≠ none := fun x hv => by
      rcases hA.2.2 with ⟨h2, _⟩ | ⟨g, cap, cur, h2, h3, _⟩
      · rw [h2] at hv; cases hv
      · rw [h2] at hv
        have : g = x := by simpa [Value.ownBlock] using hv
        rw [← this, h3]; simp
  · exact f x hv
  · have := oS hb
    rcases hn with hn | hn
    · exact .inl (f b (by rw [← hn]; exact this))
    · exact .inr (hn b this)
theorem Sat.own_set {g cap : Nat} (hs : Sat B D w (aJ e size (.slice (some ⟨g, 0, none⟩) n cap) n xs :: l)) (j : Nat) (u : Value) (hu : u.oneCell' = true) : Sat B D (w.setCell ⟨g, j, none⟩ u) (aJ e size (.slice (some ⟨g, 0, none⟩) n cap) n (xs.set j u) :: l) := by
  have ho := hs.own 0 rfl
  refine hs.own_step ((Kept.set_at w g j u).mono (fun k _ e => by rw [e]; rfl)) ?_ (.inl rfl)
  obtain ⟨z, hz, hr⟩ := ho.row
  rcases ho.2.2 with ⟨h1, _⟩ | ⟨g', cap', cur, hv, hh, h1, h2, h3, h4⟩
  · cases h1
  · cases hv
    exact (hr.set j u).own (by rw [List.length_set]; exact ho.1) (fun x hx => (List.mem_or_eq_of_mem_set hx).elim (ho.2.1 x) (fun e => e ▸ hu)) h1 h2 hz
theorem Sat.own_cut {g cap m c : Nat} (hs : Sat B D w (aJ e size (.slice (some ⟨g, 0, none⟩) n cap) n xs :: l)) (hm : m ≤ n) (hc : m ≤ c) (hc' : c ≤ cap) : Sat B D w (aJ e size (.slice (some ⟨g, 0, none⟩) m c) m (xs.take (m * size)) :: l) :=
  hs.own_step (Kept.refl _ _) ((hs.own 0 rfl).cut hm hc hc') (.inl rfl)
def RdP (D : PH) (size : Nat) (v : Value) (n : Nat) (xs : List Value) : Prop :=
  xs.length = n * size ∧ n ≤ maxLen ∧ ∃ ao cap, v = .slice ao n cap ∧ n ≤ cap ∧ cap ≤ maxLen ∧ (ao = none → cap = 0) ∧ (n = 0 ∨ ∃ g o, ao = some ⟨g, o, none⟩ ∧ ∃ cs t fr, D g = some (.cells cs t fr) ∧ ∀ j u, xs[j]? = some u → cs[o + j]? = some u)
theorem RdP.mono {D' : PH} (h : RdP D size v n xs) (le : PH.le D D') : RdP D' size v n xs := by
  obtain ⟨h1, h2, ao, cap, h3, h4, h5, h6, h7⟩ := h
  refine ⟨h1, h2, ao, cap, h3, h4, h5, h6, h7.imp (fun h => h) ?_⟩
  rintro ⟨g, o, rfl, cs, t, fr, h8, h9⟩
  exact ⟨g, o, rfl, cs, t, fr, le _ _ h8, h9⟩
theorem RdP.rd (h : RdP D size v n xs) (hs : Sat B D w l) : Rd w size v n xs := by
  obtain ⟨h1, h2, ao, cap, h3, h4, h5, h6, h7⟩ := h
  refine ⟨h1, h2, ao, cap, h3, h4, h5, h6, h7.imp (fun h => h) ?_⟩
  rintro ⟨g, o, rfl, cs, t, fr, h8, h9⟩
  refine ⟨g, o, rfl, fun j u hu => ?_⟩
  have := hs.pool _ _ h8
  rw [cell_of_row w g (o + j) cs t fr this]
  exact h9 j u hu
theorem RdP.nil (D : PH) (size : Nat) : RdP D size (.slice none 0 0) 0 [] := ⟨by simp, Nat.zero_le _, none, 0, rfl, Nat.le_refl _, Nat.zero_le _, fun _ => rfl, .inl rfl⟩
theorem RdP.of_rd (h : Rd w size v n xs) (hpos : 0 < size) : RdP (cD w) size v n xs := by
  obtain ⟨h1, h2, ao, cap, h3, h4, h5, h6, h7⟩ := h
  refine ⟨h1, h2, ao, cap, h3, h4, h5, h6, ?_⟩
  rcases h7 with h7 | ⟨g, o, rfl, h7⟩
  · exact .inl h7
  · by_cases hn : n = 0
    · exact .inl hn
    · refine .inr ⟨g, o, rfl, ?_⟩
      have hx : 0 < xs.length := by rw [h1]; exact Nat.mul_pos (by omega) hpos
      have h0 := h7 0 xs[0] (List.getElem?_eq_getElem hx)
      unfold World.cell? at h0
      split at h0
      · rename_i c t fr hb
        refine ⟨c, t, fr, hb, fun j u hu => ?_⟩
        have := h7 j u hu
        rw [cell_of_row w g (o + j) c t fr hb] at this
        exact this
      · cases h0
theorem RdP.of_own {h1 : PH} (h : aJ e size v n xs h1) (le : PH.le h1 D) : RdP D size v n xs := by
  have hl := h.1
  rcases h.2.2 with ⟨rfl, rfl⟩ | ⟨g, cap, cur, rfl, h2, h3, h4, h5, h6⟩
  · exact ⟨h.1, Nat.zero_le _, none, 0, rfl, Nat.le_refl _, Nat.zero_le _, fun _ => rfl, .inl rfl⟩
  · refine ⟨h.1, by omega, _, cap, rfl, h3, h4, (fun h => by cases h), .inr ⟨g, 0, rfl, cur, e, (0, 0), le _ _ h2, fun j u hu => ?_⟩⟩
    rw [← h6, List.getElem?_take] at hu
    split at hu
    · rw [Nat.zero_add]; simpa using hu
    · cases hu
theorem Sat.own_give (hs : Sat B D w (aJ e size v n xs :: l)) : ∃ D', PH.le D D' ∧ RdP D' size v n xs ∧ Sat B D' w l := by
  obtain ⟨D', h1, a, b, c, d⟩ := hs.give
  exact ⟨D', c, RdP.of_own a b, d⟩
theorem RdP.oneV (h : RdP D size v n xs) : v.oneCell' = true := by obtain ⟨_, _, ao, cap, rfl, _⟩ := h; rfl
theorem RdP.shape (h : RdP D size v n xs) : ∃ ao cap, v = .slice ao n cap := by obtain ⟨_, _, ao, cap, h, _⟩ := h; exact ⟨ao, cap, h⟩
theorem RdP.len (h : RdP D size v n xs) : n ≤ 9223372036854775807 := by have := h.2.1; unfold maxLen at this; omega
theorem RdP.take {ao : Option Addr} {cap : Nat} (h : RdP D size (.slice ao n cap) n xs) {m : Nat} (hm : m ≤ n) : RdP D size (.slice ao m cap) m (xs.take (m * size)) := by
  obtain ⟨h1, h2, ao', cap', h3, h4, h5, h6, h7⟩ := h
  cases h3
  have hl : m * size ≤ n * size := Nat.mul_le_mul_right _ hm
  refine ⟨by rw [List.length_take, h1]; omega, by omega, ao, cap, rfl, by omega, h5, h6, ?_⟩
  rcases h7 with h7 | ⟨g, o, rfl, cs, t, fr, h8, h9⟩
  · exact .inl (by omega)
  · refine .inr ⟨g, o, rfl, cs, t, fr, h8, fun j u hu => ?_⟩
    rw [List.getElem?_take] at hu
    split at hu
    · exact h9 j u hu
    · cases hu
end
theorem ar {P : Program} {B : World} {D : PH} {l : List HP} (w : World) {ops : Array Oper} {rest : List Oper} {o : Oper} {a : Act} {Q : Exit → Act → World → Prop} (hgd : o.guard = none) (s x : Operand) (t : TypeId)
    (ho : o.op = .call { callee := .builtin .append, args := #[s, x], argTypes := #[t, t] })
    (e : TypeId) (i : TypeInfo) (z : Value) (size bytes : Nat) (ht : P.underlying t = some (.slice e)) (hi : P.info? e = some i) (hz : i.zero = some z)
    (hsize : i.size = size) (hby : i.bytes = bytes) (hzs : z.cells.size = size)
    (v : Value) (n : Nat) (xs : List Value) (hv : a.eval s = v) (hs : Sat B D w (aJ e size v n xs :: l)) (xv : Value) (m : Nat) (news : List Value) (hx : a.eval x = xv) (hrd : Rd w size xv m news) (h1 : ∀ u ∈ news, u.oneCell' = true)
    (h63 : n + m ≤ maxLen) (hbytes : (n + m) * bytes ≤ 140737488355328)
    (h : ∀ v' w', Sat B D w' (aJ e size v' (n + m) (xs ++ news) :: l) → v'.oneCell' = true → wpList P ops Q rest (a.put o.dst v') w') : wpList P ops Q (o :: rest) a w := by
  refine i3 w hgd s x t ho e i z size bytes ht hi hz hsize hby hzs v n xs hv (hs.own 0 rfl) xv m news hx hrd h1 h63 hbytes (fun v' w' ho' hk hb _ _ => h v' w' (hs.own_step hk ho' (hb.imp (fun h => h) (fun hb g hg => ?_))) ?_)
  · rw [hb.1] at hg
    exact Nat.le_of_eq (Option.some.inj hg)
  · rcases ho'.2.2 with ⟨h2, _⟩ | ⟨g, cap, cur, h2, _⟩ <;> rw [h2] <;> rfl
theorem aT {w : World} {b : Nat} {cs : Array Value} {t : TypeId} {fr : Nat × Nat} {size n : Nat} (h : w.heap[b]? = some (.cells cs t fr)) (hn : cs.toList.length = n * size) (hm : n ≤ maxLen) : Rd w size (.slice (some ⟨b, 0, none⟩) n n) n cs.toList :=
  ⟨hn, hm, _, n, rfl, Nat.le_refl _, hm, (fun h => by cases h), .inr ⟨b, 0, rfl, fun j u hu => by
    rw [cell_of_row w b (0 + j) cs t fr h, Nat.zero_add]; simpa using hu⟩⟩
section
variable {P : Program} {B w w' : World} {D : PH} {l : List HP} {e : TypeId} {size n cap g : Nat} {xs : List Value}
theorem Sat.own_row (hs : Sat B D w (aJ e size (.slice (some ⟨g, 0, none⟩) n cap) n xs :: l)) : ∃ cur : List Value, Sat B D w (Proofs.YtgljdkjepdknnaaGreatDoor.blk g cur.toArray e :: l) ∧ n ≤ cap ∧ cap ≤ maxLen ∧ cap * size ≤ cur.length ∧ cur.take (n * size) = xs ∧ (∀ u ∈ xs, u.oneCell' = true) ∧ xs.length = n * size := by
  rcases (hs.own 0 rfl).2.2 with ⟨h1, _⟩ | ⟨g', cap', cur, hv, hh, h1, h2, h3, h4⟩
  · cases h1
  · cases hv
    refine ⟨cur.toList, ?_, h1, h2, by simpa using h3, h4, (hs.own 0 rfl).2.1, (hs.own 0 rfl).1⟩
    rw [Array.toArray_toList]
    refine hs.step fun k1 le hA => ⟨(Kept.refl (fun _ => False) _).mono (fun _ _ h => h.elim), k1, le, ?_, fun b o hb => .inl (by rw [hb]; simp)⟩
    rcases hA.2.2 with ⟨h5, _⟩ | ⟨g2, cap2, cur2, h5, h6, _⟩
    · cases h5
    · cases h5
      have := le _ _ h6
      unfold cD at this
      rw [hh] at this
      cases this
      exact h6
theorem Sat.row_own {cur : List Value} (hs : Sat B D w (Proofs.YtgljdkjepdknnaaGreatDoor.blk g cur.toArray e :: l)) (hn : n ≤ cap) (hc : cap ≤ maxLen) (hz : cap * size ≤ cur.length) (hx : cur.take (n * size) = xs) (h1 : ∀ u ∈ xs, u.oneCell' = true) : Sat B D w (aJ e size (.slice (some ⟨g, 0, none⟩) n cap) n xs :: l) := by
  refine hs.weaken fun h hb => ⟨?_, h1, .inr ⟨g, cap, cur.toArray, rfl, hb, hn, hc, by simpa using hz, by simpa using hx⟩⟩
  rw [← hx, List.length_take]
  have : n * size ≤ cap * size := Nat.mul_le_mul_right _ hn
  omega
theorem Sat.setRow {cur : List Value} (hs : Sat B D w (Proofs.YtgljdkjepdknnaaGreatDoor.blk g cur.toArray e :: l)) (new : List Value) : Sat B D (w.setRow g new.toArray) (Proofs.YtgljdkjepdknnaaGreatDoor.blk g new.toArray e :: l) :=
  hs.step fun h1 le hA => ⟨⟨rfl, rfl, rfl, by simp [World.setRow], fun k _ hk => setRow_other w g k _ (fun e => hk (by rw [e, hA]; simp))⟩, one g (.cells new.toArray e), oz (setRow_heap w g cur.toArray new.toArray e (0, 0) (le _ _ hA)), jP _ _, fun b' o h => .inl (by rw [kx h, hA]; simp)⟩
def lay (L : List Value) (off : Nat) (cs : List Value) : List Value := L.take off ++ cs ++ L.drop (off + cs.length)
theorem ep (L : List Value) (off : Nat) (cs : List Value) (h : off + cs.length ≤ L.length) : (lay L off cs).length = L.length := by
  unfold lay; simp; omega
theorem oO (cur xs xc : List Value) (p z N : Nat) (hct : cur.take N = xs) (hp : p ≤ N) (hx : xc.length = z) (hl : N + z ≤ cur.length) :
    (lay (lay cur (p + z) (xs.drop p)) p xc).take (N + z) = xs.take p ++ xc ++ xs.drop p := by
  have hxl : xs.length = N := by rw [← hct, List.length_take]; omega
  have hd : (xs.drop p).length = N - p := by rw [List.length_drop, hxl]
  have h1 : (lay cur (p + z) (xs.drop p)).take p = xs.take p := by
    unfold lay
    rw [List.append_assoc, List.take_append_of_le_length (by rw [List.length_take]; omega), List.take_take, Nat.min_eq_left (by omega), ← hct, List.take_take, Nat.min_eq_left hp]
  have h2 : (lay cur (p + z) (xs.drop p)).drop (p + z) = xs.drop p ++ cur.drop (p + z + (N - p)) := by
    unfold lay
    rw [List.append_assoc, List.drop_append_of_le_length (by rw [List.length_take]; omega), List.drop_eq_nil_of_le (by rw [List.length_take]; omega), List.nil_append, hd]
  have h3 : lay (lay cur (p + z) (xs.drop p)) p xc = (xs.take p ++ xc ++ xs.drop p) ++ cur.drop (p + z + (N - p)) := by
    conv => lhs; unfold lay
    rw [hx]
    have h2' := h2
    unfold lay at h1 h2'
    rw [h1, h2']
    simp
  have h4 : (xs.take p ++ xc ++ xs.drop p).length = N + z := by simp [hxl, hx]; omega
  rw [h3, List.take_append_of_le_length (by omega), List.take_of_length_le (by omega)]
theorem m8 (cur xs xc zs : List Value) (p z N : Nat) (hct : cur.take (N + z) = xs.take p ++ zs) (hxl : xs.length = N) (hp : p ≤ N) (hx : xc.length = z) :
    (lay (lay cur p xc) (p + z) (xs.drop p)).take (N + z) = xs.take p ++ xc ++ xs.drop p := by
  have hd : (xs.drop p).length = N - p := by rw [List.length_drop, hxl]
  have h0 : cur.take p = xs.take p := by
    have := congrArg (List.take p) hct
    rw [List.take_take, Nat.min_eq_left (by omega), List.take_append_of_le_length (by rw [List.length_take]; omega), List.take_take, Nat.min_self] at this
    exact this
  have hp' : (xs.take p).length = p := by rw [List.length_take]; omega
  have h1 : lay cur p xc = xs.take p ++ xc ++ cur.drop (p + z) := by unfold lay; rw [h0, hx]
  have h2 : (lay cur p xc).take (p + z) = xs.take p ++ xc := by
    rw [h1, List.take_append_of_le_length (by simp [hx]; omega), List.take_of_length_le (by simp [hx]; omega)]
  have h4 : (xs.take p ++ xc ++ xs.drop p).length = N + z := by simp [hxl, hx]; omega
  conv => lhs; unfold lay
  have h2' := h2
  unfold lay at h2'
  rw [h2', List.take_append_of_le_length (by omega), List.take_of_length_le (by omega)]
theorem l6 (w : World) (dT sT ty elem : TypeId) (size : Nat) (g o dLen dCap : Nat) (x : Value) (m n' : Nat) (cur : Array Value) (t : TypeId) (news : List Value)
    (hu : P.underlying dT = some (.slice elem)) (hsz : ∀ w0 : World, (sizeOf elem).run P w0 = .ok size w0) (hg : w.heap[g]? = some (.cells cur t (0, 0))) (hrd : Rd w size x m news) (hn : n' = min m dLen) (hfit : o + n' * size ≤ cur.size) (h1 : ∀ u ∈ news.take (n' * size), u.oneCell' = true) :
    (Builtin.copy_ #[dT, sT] ty #[.slice (some ⟨g, o, none⟩) dLen dCap, x]).run P w = .ok (goInt n') (w.setRow g (lay cur.toList o (news.take (n' * size))).toArray) := by
  obtain ⟨hl, _, ao, c, rfl, _, _, _, hcell⟩ := hrd
  have hmn : Nat.min m dLen = n' := hn.symm
  have hle : n' * size ≤ m * size := Nat.mul_le_mul_right _ (by omega)
  have hlen : (news.take (n' * size)).length = n' * size := by rw [List.length_take, hl]; omega
  have hst := run_storeCells_at P g o t (news.take (n' * size)) 0 cur w hg (by rw [hlen]; omega) h1
  have hfc : (Builtin.firstCells size n' (.slice ao m c)).run P w = .ok (news.take (n' * size)).toArray w := by
    rcases hcell with h0 | ⟨g0, o0, rfl, hc⟩
    · have hn0 : n' = 0 := by omega
      subst hn0
      cases ao <;> simp [Builtin.firstCells, loadCells, loadCellsFrom]
    · refine run_firstCells_some w size n' ⟨g0, o0, none⟩ m c _ hlen (fun j u hu => ?_)
      rw [bZ]
      rw [List.getElem?_take] at hu
      split at hu
      · exact hc j u hu
      · cases hu
  simp only [Nat.add_zero] at hst
  simp [Builtin.copy_, run_underlying hu, Builtin.lenOf, hsz, hmn, hfc, hst, lay]
theorem dE (w : World) {ops : Array Oper} {rest : List Oper} {o : Oper} {a : Act} {Q : Exit → Act → World → Prop} (hgd : o.guard = none) (d s : Operand) (dT sT : TypeId)
    (ho : o.op = .call { callee := .builtin .copy, args := #[d, s], argTypes := #[dT, sT] }) (elem : TypeId) (size : Nat) (hu : P.underlying dT = some (.slice elem)) (hsz : ∀ w0 : World, (sizeOf elem).run P w0 = .ok size w0)
    (g off dLen dCap : Nat) (hd : a.eval d = .slice (some ⟨g, off, none⟩) dLen dCap) (cur : List Value) (hs : Sat B D w (blk g cur.toArray e :: l)) (x : Value) (m n' : Nat) (news cs : List Value) (hx : a.eval s = x) (hrd : Rd w size x m news) (hn : n' = min m dLen)
    (hcs : news.take (n' * size) = cs) (hfit : off + n' * size ≤ cur.length) (h1 : ∀ u ∈ cs, u.oneCell' = true)
    (h : ∀ w', Sat B D w' (blk g (lay cur off cs).toArray e :: l) → wpList P ops Q rest (a.put o.dst (goInt n')) w') : wpList P ops Q (o :: rest) a w := by
  refine wpList_plain hgd fun K hK => ?_
  have hrun := l6 (P := P) w dT sT o.type elem size g off dLen dCap x m n' cur.toArray e news hu hsz hs.heap_blk hrd hn (by simpa using hfit) (by rw [hcs]; exact h1)
  subst hcs
  unfold Oper.wp
  simp [execOp, ho, resolve, invoke, builtin, hd, hx, hrun, Result.andThen]
  exact hK _ _ (h _ (by simpa using hs.setRow _))
theorem kG (w : World) (t ty elem : TypeId) (z : Value) (g o n c : Nat) (cur : Array Value) (t' : TypeId) (hu : P.underlying t = some (.slice elem)) (hz : ∀ w0 : World, (zeroValue elem).run P w0 = .ok z w0)
    (hg : w.heap[g]? = some (.cells cur t' (0, 0))) (hn : 0 < n) (hfit : o + (Builtin.zeroCells z.cells n).size ≤ cur.size) (h1 : ∀ u ∈ (Builtin.zeroCells z.cells n).toList, u.oneCell' = true) :
    (Builtin.clear_ #[t] ty #[.slice (some ⟨g, o, none⟩) n c]).run P w = .ok (.tuple #[]) (w.setRow g (lay cur.toList o (Builtin.zeroCells z.cells n).toList).toArray) := by
  have hst := run_storeCells_at P g o t' (Builtin.zeroCells z.cells n).toList 0 cur w hg (by simpa using hfit) h1
  obtain ⟨m, rfl⟩ : ∃ m, n = m + 1 := ⟨n - 1, by omega⟩
  simp only [Nat.add_zero] at hst
  simp [Builtin.clear_, run_underlying hu, hz, hst, lay]
theorem cP (w : World) {ops : Array Oper} {rest : List Oper} {o : Oper} {a : Act} {Q : Exit → Act → World → Prop} (hgd : o.guard = none) (d : Operand) (dT : TypeId)
    (ho : o.op = .call { callee := .builtin .clear, args := #[d], argTypes := #[dT] }) (elem : TypeId) (z : Value) (hu : P.underlying dT = some (.slice elem)) (hz : ∀ w0 : World, (zeroValue elem).run P w0 = .ok z w0)
    (g off n c : Nat) (hd : a.eval d = .slice (some ⟨g, off, none⟩) n c) (cur : List Value) (hs : Sat B D w (blk g cur.toArray e :: l)) (hn : 0 < n) (hfit : off + (Builtin.zeroCells z.cells n).size ≤ cur.length) (h1 : ∀ u ∈ (Builtin.zeroCells z.cells n).toList, u.oneCell' = true)
    (h : ∀ w', Sat B D w' (blk g (lay cur off (Builtin.zeroCells z.cells n).toList).toArray e :: l) → wpList P ops Q rest (a.put o.dst (.tuple #[])) w') : wpList P ops Q (o :: rest) a w := by
  refine wpList_plain hgd fun K hK => ?_
  have hrun := kG (P := P) w dT o.type elem z g off n c cur.toArray e hu hz hs.heap_blk hn (by simpa using hfit) h1
  unfold Oper.wp
  simp [execOp, ho, resolve, invoke, builtin, hd, hrun, Result.andThen]
  exact hK _ _ (h _ (by simpa using hs.setRow _))
theorem eq {z : Array Value} (hz1 : ∀ u ∈ z.toList, u.oneCell' = true) (k : Nat) : ∀ u ∈ (Builtin.zeroCells z k).toList, u.oneCell' = true := by
  intro u hu
  simp only [Builtin.zeroCells, Array.toList_map, List.mem_map] at hu
  obtain ⟨j, hj, rfl⟩ := hu
  have hj' : j < k * z.size := by simpa using hj
  have hpos : 0 < z.size := by rcases Nat.eq_zero_or_pos z.size with h | h; rw [h] at hj'; omega; exact h
  have hlt : j % z.size < z.size := Nat.mod_lt _ hpos
  rw [getElem!_pos z _ hlt]
  exact hz1 _ (by simp)
theorem iW (w : World) (t tx ty e : TypeId) (i : TypeInfo) (z : Value) (ht : P.underlying t = some (.slice e)) (htx : P.underlying tx = some (.int .i64)) (hi : P.info? e = some i) (hz : i.zero = some z)
    (b : Addr) (sLen sCap : Nat) (olds : List Value) (hlo : olds.length = sLen * i.size) (holds : ∀ j v, olds[j]? = some v → w.cell? (b.add j) = some v)
    (k : Nat) (hk : 0 < k * i.size) (hg : sCap < sLen + k) (h63 : ((sLen + k : Nat) : Int) ≤ 9223372036854775807) (hkb : k * i.bytes ≤ 281474976710656) (hfit : Builtin.nextslicecap (sLen + k) sCap * i.bytes ≤ 281474976710656) :
    (Builtin.append_ #[t, tx] ty #[.slice (some b) sLen sCap, .int .i64 k]).run P w =
      .ok (.slice (some ⟨w.heap.size, 0, none⟩) (sLen + k) (grownCap w (sLen + k) sCap e))
        (w.drew.alloc (.cells ((olds.toArray ++ Builtin.zeroCells z.cells k) ++ Builtin.zeroCells z.cells (grownCap w (sLen + k) sCap e - (sLen + k))) e)) := by
  have hn : ¬ (sLen + k ≤ sCap) := by omega
  have h63' : ¬ (9223372036854775807 < ((sLen : Int) + (k : Int))) := by omega
  have h48' : ¬ (281474976710656 < Builtin.nextslicecap (sLen + k) sCap * i.bytes) := by omega
  have hw : IntKind.i64.wrap (k : Int) = k := IntWalk.i64_in _ (by omega)
  have hk0 : k * i.size ≠ 0 := by omega
  have hneg : ¬ ((k : Int) < 0) := by omega
  have hkb' : ¬ ((281474976710656 : Int) < (k : Int) * (i.bytes : Int)) := by rw [← Int.natCast_mul]; omega
  have hfc := run_firstCells_some (P := P) w.drew i.size sLen b sLen sCap olds hlo (by simpa using holds)
  simp [Builtin.append_, run_underlying ht, run_underlying htx, sizeOf, typeInfo, zeroValue, hi, hz, asInt, asIntOf, hw, hn, h63', h48', hkb', hk0, hneg, Question.forced, hfc, newRow, grownCap]
theorem Sat.own_fresh {cs : Array Value} (hs : Sat B D w l) (hn : n ≤ cap) (hc : cap ≤ maxLen) (hz : cap * size ≤ cs.size) (hx : cs.toList.take (n * size) = xs) (h1 : ∀ u ∈ xs, u.oneCell' = true) : Sat B D (w.alloc (.cells cs e)) (aJ e size (.slice (some ⟨w.heap.size, 0, none⟩) n cap) n xs :: l) := by
  have h := hs.alloc cs e
  rw [← Array.toArray_toList (xs := cs)] at h
  exact Sat.row_own (by simpa using h) hn hc (by simpa using hz) hx h1
theorem fz (w : World) {ops : Array Oper} {rest : List Oper} {o : Oper} {a : Act} {Q : Exit → Act → World → Prop} (hgd : o.guard = none) (s x : Operand) (t tx : TypeId)
    (ho : o.op = .call { callee := .builtin .append, args := #[s, x], argTypes := #[t, tx] }) (e : TypeId) (i : TypeInfo) (z : Value) (size bytes : Nat) (ht : P.underlying t = some (.slice e)) (htx : P.underlying tx = some (.int .i64)) (hi : P.info? e = some i) (hz : i.zero = some z)
    (hsize : i.size = size) (hby : i.bytes = bytes) (hzs : z.cells.size = size) (hz1 : ∀ u ∈ z.cells.toList, u.oneCell' = true)
    (b : Addr) (sLen sCap : Nat) (hs : a.eval s = .slice (some b) sLen sCap) (olds : List Value) (hlo : olds.length = sLen * size) (holds : ∀ j v, olds[j]? = some v → w.cell? (b.add j) = some v) (ho1 : ∀ u ∈ olds, u.oneCell' = true)
    (k : Nat) (hx : a.eval x = .int .i64 k) (hk : 0 < k * size) (hg : sCap < sLen + k) (h63 : sLen + k ≤ maxLen) (hb : (sLen + k) * bytes ≤ 140737488355328) (hsat : Sat B D w l)
    (h : ∀ w' g2 cap2 zs, zs.length = k * size → sLen + k ≤ cap2 → Sat B D w' (aJ e size (.slice (some ⟨g2, 0, none⟩) (sLen + k) cap2) (sLen + k) (olds ++ zs) :: l) → wpList P ops Q rest (a.put o.dst (.slice (some ⟨g2, 0, none⟩) (sLen + k) cap2)) w') : wpList P ops Q (o :: rest) a w := by
  subst hsize hby
  have h63' : sLen + k ≤ 9223372036854775807 := by unfold maxLen at h63; omega
  have hkb : k * i.bytes ≤ (sLen + k) * i.bytes := Nat.mul_le_mul_right _ (by omega)
  have hrun := iW (P := P) w t tx o.type e i z ht htx hi hz b sLen sCap olds hlo holds k hk hg (by omega) (by omega) (growslice_fits hg hb)
  refine wpList_plain hgd fun K hK => ?_
  unfold Oper.wp execOp
  simp only [ho, resolve, invoke, builtin, Sem.run_bind, Sem.run_pure, Result.andThen_ok, List.map_toArray, List.map_cons, List.map_nil, hs, hx, hrun]
  refine hK _ _ (h _ _ _ (Builtin.zeroCells z.cells k).toList (by simp [size_zeroCells, hzs]) (grownCap_ge w (sLen + k) sCap e) ?_)
  have hsz : (Builtin.zeroCells z.cells k).size = k * i.size := by rw [size_zeroCells, hzs]
  have hm : ∀ k, ∀ u ∈ (Builtin.zeroCells z.cells k).toList, u.oneCell' = true := by
    intro k u hu
    simp only [Builtin.zeroCells, Array.toList_map, List.mem_map] at hu
    obtain ⟨j, hj, rfl⟩ := hu
    have hj' : j < k * z.cells.size := by simpa using hj
    have hpos : 0 < z.cells.size := by rcases Nat.eq_zero_or_pos z.cells.size with h | h; rw [h] at hj'; omega; exact h
    have hlt : j % z.cells.size < z.cells.size := Nat.mod_lt _ hpos
    rw [getElem!_pos z.cells _ hlt]
    exact hz1 _ (by simp)
  refine (Sat.own_fresh (w := w.drew) hsat.drew (grownCap_ge w (sLen + k) sCap e) (grownCap_le_maxLen w (sLen + k) sCap e h63) ?_ ?_ ?_)
  · simp only [Array.size_append, List.size_toArray, hlo, size_zeroCells, hzs, ← Nat.add_mul]
    rw [show sLen + k + (grownCap w (sLen + k) sCap e - (sLen + k)) = grownCap w (sLen + k) sCap e by have := grownCap_ge w (sLen + k) sCap e; omega]
    exact Nat.le_refl _
  · rw [Array.toList_append, List.take_append_of_le_length (by simp [hlo, size_zeroCells, hzs, Nat.add_mul])]
    rw [List.take_of_length_le (by simp [hlo, size_zeroCells, hzs, Nat.add_mul])]
    simp
  · intro u hu
    rcases List.mem_append.1 hu with hu | hu
    · exact ho1 u hu
    · exact hm k u hu
theorem gW (w : World) (t ty e : TypeId) (i : TypeInfo) (size : Nat) (ht : P.underlying t = some (.slice e)) (hi : P.info? e = some i) (hsize : i.size = size)
    (hown : Own w e size (.slice (some ⟨g, 0, none⟩) n cap) n xs) (x : Value) (m : Nat) (news : List Value) (hx : Rd w size x m news) (h1 : ∀ u ∈ news, u.oneCell' = true) (hroom : n + m ≤ cap) :
    ∃ w', (Builtin.append_ #[t, t] ty #[.slice (some ⟨g, 0, none⟩) n cap, x]).run P w = .ok (.slice (some ⟨g, 0, none⟩) (n + m) cap) w' ∧ Own w' e size (.slice (some ⟨g, 0, none⟩) (n + m) cap) (n + m) (xs ++ news) ∧ Kept (fun k => some g = some k) w w' := by
  subst hsize
  obtain ⟨hl, _, ao, c, rfl, _, _, _, hcell⟩ := hx
  by_cases hm : m = 0
  · subst hm
    have hn : news = [] := List.eq_nil_of_length_eq_zero (by simpa using hl)
    subst hn
    rw [Nat.add_zero, List.append_nil]
    exact ⟨w, eC w t ty e i ht hi _ ao n cap c (by omega), hown, Kept.refl _ _⟩
  · rcases hcell with h0 | ⟨g0, o0, rfl, hc⟩
    · exact absurd h0 hm
    · have hxl := hown.1
      rcases hown.2.2 with ⟨h2, _⟩ | ⟨g', cap', cur, hv, hg, hnc, hcm, hcs, htake⟩
      · cases h2
      · cases hv
        have hle : (n + m) * i.size ≤ cap * i.size := Nat.mul_le_mul_right _ hroom
        have hlen : (xs ++ news).length = (n + m) * i.size := by rw [List.length_append, hxl, hl, Nat.add_mul]
        have hfit : n * i.size + news.length ≤ cur.size := by rw [hl, ← Nat.add_mul]; omega
        have hr := run_append_room (P := P) w t ty e i ht hi g n cap cur hg ⟨g0, o0, none⟩ m c news hl (fun j u hu => by rw [bZ]; exact hc j u hu) h1 hroom hfit
        refine ⟨_, hr, ⟨hlen, fun u hu => (List.mem_append.1 hu).elim (hown.2.1 u) (h1 u), .inr ⟨g, cap, _, rfl, setRow_heap w g cur _ e _ hg, hroom, hcm, ?_, ?_⟩⟩, ⟨rfl, rfl, rfl, by simp [World.setRow], fun k _ hk => setRow_other w g k _ (fun e => hk (by rw [e]))⟩⟩
        · simp only [List.size_toArray, List.length_append, List.length_take, List.length_drop, Array.length_toList]
          omega
        · rw [htake, ← hlen]
          exact List.take_left
theorem dY (w : World) {ops : Array Oper} {rest : List Oper} {o : Oper} {a : Act} {Q : Exit → Act → World → Prop} (hgd : o.guard = none) (s x : Operand) (t : TypeId)
    (ho : o.op = .call { callee := .builtin .append, args := #[s, x], argTypes := #[t, t] }) (e : TypeId) (i : TypeInfo) (size : Nat) (ht : P.underlying t = some (.slice e)) (hi : P.info? e = some i) (hsize : i.size = size)
    (g n cap : Nat) (xs : List Value) (hv : a.eval s = .slice (some ⟨g, 0, none⟩) n cap) (hs : Sat B D w (aJ e size (.slice (some ⟨g, 0, none⟩) n cap) n xs :: l)) (xv : Value) (m : Nat) (news : List Value) (hx : a.eval x = xv) (hrd : Rd w size xv m news) (h1 : ∀ u ∈ news, u.oneCell' = true) (hroom : n + m ≤ cap)
    (h : ∀ w', Sat B D w' (aJ e size (.slice (some ⟨g, 0, none⟩) (n + m) cap) (n + m) (xs ++ news) :: l) → wpList P ops Q rest (a.put o.dst (.slice (some ⟨g, 0, none⟩) (n + m) cap)) w') : wpList P ops Q (o :: rest) a w := by
  obtain ⟨w', hr, h2, h3⟩ := gW (P := P) w t o.type e i size ht hi hsize (hs.own 0 rfl) xv m news hrd h1 hroom
  refine wpList_plain hgd fun K hK => ?_
  unfold Oper.wp execOp
  simp only [ho, resolve, invoke, builtin, Sem.run_bind, Sem.run_pure, Result.andThen_ok, List.map_toArray, List.map_cons, List.map_nil, hv, hx, hr]
  exact hK _ _ (h w' (hs.own_step h3 h2 (.inl rfl)))
end
end Go.Proofs.YtgljdkjepdknnaaGreatDoor
namespace Go.Proofs.YtgljdkjepdknnaaGreatDoor
open Go.ChangeShapes Go.WideShapes Go.ChangeAt Go.RowKit Go.Deep
theorem ez {α : Type} {f : α → List Value} {size : Nat} (hf : ∀ x, (f x).length = size) (l : List α) : (l.flatMap f).length = l.length * size := by
  induction l with
  | nil => simp
  | cons x l ih => rw [List.flatMap_cons, List.length_append, hf, ih, List.length_cons, Nat.succ_mul]; omega
theorem bF {α : Type} {f : α → List Value} {size : Nat} (hf : ∀ x, (f x).length = size) : ∀ (l : List α) (i : Nat) (x : α), l[i]? = some x → ∀ (j : Nat) (u : Value), (f x)[j]? = some u → (l.flatMap f)[i * size + j]? = some u
  | [], i, x, h, _, _, _ => by simp at h
  | y :: l, i, x, h, j, u, hu => by
    rw [List.flatMap_cons]
    have hj : j < size := by rw [← hf x]; exact (List.getElem?_eq_some_iff.1 hu).1
    cases i with
    | zero =>
      simp only [List.getElem?_cons_zero, Option.some.injEq] at h
      subst h
      rw [Nat.zero_mul, Nat.zero_add, List.getElem?_append_left (by rw [hf]; exact hj)]
      exact hu
    | succ i =>
      rw [List.getElem?_append_right (by rw [hf, Nat.succ_mul]; omega), hf, Nat.succ_mul, show i * size + size + j - size = i * size + j by omega]
      exact bF hf l i x (by simpa using h) j u hu
theorem cF {α : Type} {f : α → List Value} {size : Nat} (hf : ∀ x, (f x).length = size) : ∀ (l : List α) (n : Nat), (l.flatMap f).take (n * size) = (l.take n).flatMap f
  | [], n => by simp
  | y :: l, 0 => by simp
  | y :: l, n + 1 => by
    rw [List.flatMap_cons, List.take_succ_cons, List.flatMap_cons, List.take_append, hf, Nat.succ_mul, List.take_of_length_le (by rw [hf]; omega), show n * size + size - size = n * size by omega, cF hf l n]
theorem fq {α : Type} {f : α → List Value} {size : Nat} (hf : ∀ x, (f x).length = size) : ∀ (l : List α) (n : Nat), (l.flatMap f).drop (n * size) = (l.drop n).flatMap f
  | [], n => by simp
  | y :: l, 0 => by simp
  | y :: l, n + 1 => by
    rw [List.flatMap_cons, List.drop_succ_cons, List.drop_append, hf, Nat.succ_mul, List.drop_of_length_le (by rw [hf]; omega), show n * size + size - size = n * size by omega, fq hf l n, List.nil_append]
section
variable {H : Type} {enc : TypeId × Value → H} {P : Program} {w : World} {base : Nat} {spare : Nat → Bool} {held : Bool}
theorem go {ts : List TypeId} {ds : List (DataW H)} {B : Nat} (h : (DataW.weightsEach P ts ds).all (· ≤ B) = true) : ∀ (j : Nat) t d, ts[j]? = some t → ds[j]? = some d → (d.weights P t).all (· ≤ B) = true := by
  intro j t d ht hd
  refine List.all_eq_true.2 fun n hn => List.all_eq_true.1 h n (DataW.weights_mem_each ht hd n hn)
theorem ge {e : TypeId} : ∀ {ds : List (DataW H)} {i : Nat} {d : DataW H}, ds[i]? = some d → ∀ n ∈ d.weights P e, n ∈ DataW.weightsAll P e ds
  | d0 :: ds, 0, d, hd, n, hn => by
    simp only [List.getElem?_cons_zero, Option.some.injEq] at hd
    subst hd
    simp only [DataW.weightsAll, List.mem_append]
    exact .inl hn
  | d0 :: ds, i + 1, d, hd, n, hn => by
    simp only [List.getElem?_cons_succ] at hd
    simp only [DataW.weightsAll, List.mem_append]
    exact .inr (ge hd n hn)
  | [], _, _, hd, _, _ => by simp at hd
theorem oV {α : Type} [Inhabited α] {f : α → List Value} {G : α → DataW H → Prop} {size : Nat} {t e : TypeId} (ht : P.underlying t = some (.slice e)) (hsz : P.cellsOf e = size) (hpos : 0 < size) (hf : ∀ a, (f a).length = size)
    (each : ∀ fuel cs d p, DataW.trod enc P w base spare held fuel e cs = some (d, p) → ∃ a : α, cs = f a ∧ G a d) (hsp : ∀ b, spare b = true)
    {fuel : Nat} {cs : List Value} {x : DataW H × List MemPlace} (h : DataW.trod enc P w base spare held fuel t cs = some x) :
    ∃ (v : Value) (l : List α), cs = [v] ∧ Rd w size v l.length (l.flatMap f) ∧
      ((x.1 = .nil ∧ l = []) ∨ ∃ ds sp, x.1 = .slice ds sp ∧ ds.length = l.length ∧ ∀ (i : Nat) (a : α), l[i]? = some a → ∃ d, ds[i]? = some d ∧ G a d) := by
  rcases open_slice ht h with ⟨rfl, rfl⟩ | ⟨a, len, cap, m, n, D, Pl, rfl, hb, hl, hm, hmm, rfl, hx⟩
  · exact ⟨_, [], rfl, Rd.nil _ _, .inl ⟨rfl, rfl⟩⟩
  · rw [hsp, if_pos rfl] at hmm
    subst hmm
    rw [hsz] at hx
    obtain ⟨A, hA⟩ := choose_lt (α := α) (p := fun i b => w.cells? base (a.add (i * size)) size = some (f b) ∧ G b (D i)) (fun i (hi : i < len) => by
      obtain ⟨cs', h1, h2⟩ := hx i (by omega)
      obtain ⟨b, rfl, hg⟩ := each _ _ _ _ h2
      exact ⟨b, h1, hg⟩)
    have hlen : ((List.range len).map A).length = len := by simp
    have hget : ∀ i, i < len → ((List.range len).map A)[i]? = some (A i) := fun i hi => by simp [List.getElem?_map, List.getElem?_range hi]
    refine ⟨_, (List.range len).map A, rfl, ⟨by rw [ez hf], by rw [hlen]; omega, some a, m, by rw [hlen], by rw [hlen]; omega, hm, fun h => by simp at h, ?_⟩, .inr ⟨_, _, rfl, by simp, fun i b hi => ?_⟩⟩
    · rw [hlen]
      by_cases h0 : len = 0
      · exact .inl h0
      · right
        obtain ⟨_, hl0, hc0⟩ := World.cells?_some (hA 0 (by omega)).1
        have h00 := hc0 0 hpos
        have hsome : ∃ u, (f (A 0))[0]? = some u := ⟨(f (A 0))[0]'(by rw [hf]; omega), List.getElem?_eq_getElem _⟩
        obtain ⟨u0, hu0⟩ := hsome
        rw [hu0] at h00
        obtain ⟨g, o, spot⟩ := a
        have hspot : spot = none := by simpa [Addr.add] using World.cell?_spot h00
        subst hspot
        refine ⟨g, o, rfl, fun j u hu => ?_⟩
        have hj : j < len * size := by
          have := (List.getElem?_eq_some_iff.1 hu).1
          rw [ez hf, hlen] at this
          exact this
        have hi : j / size < len := Nat.div_lt_of_lt_mul (by rw [Nat.mul_comm]; exact hj)
        have hr : j % size < size := Nat.mod_lt _ hpos
        have hjj : j / size * size + j % size = j := by rw [Nat.mul_comm]; exact Nat.div_add_mod j size
        obtain ⟨_, _, hc⟩ := World.cells?_some (hA _ hi).1
        have hu' : ∃ u', (f (A (j / size)))[j % size]? = some u' := ⟨(f (A (j / size)))[j % size]'(by rw [hf]; exact hr), List.getElem?_eq_getElem _⟩
        obtain ⟨u', hu'⟩ := hu'
        have := bF hf _ _ _ (hget _ hi) _ _ hu'
        rw [hjj, hu] at this
        obtain rfl := Option.some.inj this
        have h2 := hc _ hr
        rw [hu'] at h2
        rw [bZ, bZ, Nat.add_assoc, hjj] at h2
        exact h2
    · have hi' : i < len := by
        have := (List.getElem?_eq_some_iff.1 hi).1
        rw [hlen] at this
        exact this
      rw [hget i hi'] at hi
      obtain rfl := Option.some.inj hi
      exact ⟨D i, by simp [List.getElem?_map, List.getElem?_range hi'], (hA i hi').2⟩
end
end Go.Proofs.YtgljdkjepdknnaaGreatDoor
namespace Go.Proofs.YtgljdkjepdknnaaGreatDoor
open Go.ChangeShapes Go.WideShapes Go.ChangeAt Go.RowKit
set_option maxRecDepth 100000
set_option linter.unusedSimpArgs false
structure Val where
  t : Bool
  n : Int
  s : ByteArray
deriving DecidableEq
instance : Inhabited Val := ⟨⟨false, 0, ⟨#[]⟩⟩⟩
def Val.cells (v : Val) : List Value := [.bool v.t, .int .i64 v.n, .string v.s]
theorem Val.len (v : Val) : v.cells.length = 3 := rfl
theorem Val.one (v : Val) : ∀ u ∈ v.cells, u.oneCell' = true := by intro u hu; simp [Val.cells] at hu; rcases hu with rfl | rfl | rfl <;> rfl
abbrev Val.v (x : Val) : Value := .agg #[.bool x.t, .int .i64 x.n, .string x.s]
def b6 (a1 : Bool) (a2 : Int) (a3 : ByteArray) (b1 : Bool) (b2 : Int) (b3 : ByteArray) : Bool := decide ((⟨a1, a2, a3⟩ : Val) = ⟨b1, b2, b3⟩)
theorem bH (a b : Val) : b6 a.t a.n a.s b.t b.n b.s = decide (a = b) := rfl
@[go_sem] theorem valEqB_same (a1 : Bool) (a2 : Int) (a3 : ByteArray) : b6 a1 a2 a3 a1 a2 a3 = true := by simp [b6]
theorem oG (a b : ByteArray) : (a.toList == b.toList) = decide (a = b) := by
  rw [ByteArray.toList_eq, ByteArray.toList_eq]
  by_cases h : a = b
  · subst h; simp
  · rw [decide_eq_false h]
    have : a.data.toList ≠ b.data.toList := fun e => h (by obtain ⟨⟨x⟩⟩ := a; obtain ⟨⟨y⟩⟩ := b; simp at e; subst e; rfl)
    simpa using this
theorem jd (w : World) (a1 : Bool) (a2 : Int) (a3 : ByteArray) (b1 : Bool) (b2 : Int) (b3 : ByteArray) :
    (Op.equalIn 10000 31 (.agg #[.bool a1, .int .i64 a2, .string a3]) (.agg #[.bool b1, .int .i64 b2, .string b3])).run Tryz.prog w = .ok (b6 a1 a2 a3 b1 b2 b3) w := by
  have hst : Tryz.prog.stoodInHeld 31 = false := by kernel_rfl
  have hu := Tryz.underlying31
  have hf : Tryz.prog.underlying 31 = some (.struct (Tryz.prog.fieldsOf 31)) := by unfold Program.fieldsOf; rw [hu]
  rw [show (10000 : Nat) = 9999 + 1 from rfl, run_equalIn_struct w 9999 _ _ _ hf hst]
  unfold Program.fieldsOf
  rw [hu]
  have e1 := run_equalIn_bool' (P := Tryz.prog) w 9998 4 a1 b1 Tryz.underlying4
  have e2 := run_equalIn_int (P := Tryz.prog) w 9998 2 .i64 .i64 a2 b2 Tryz.underlying2
  have e3 := run_equalIn_string (P := Tryz.prog) w 9998 9 a3 b3 Tryz.underlying9
  rw [oG] at e3
  unfold b6
  by_cases h1 : a1 = b1
  · subst h1
    by_cases h2 : a2 = b2
    · subst h2
      by_cases h3 : a3 = b3
      · subst h3
        simp [Op.eqFields, part, isAgg, run_underlying Tryz.underlying4, run_underlying Tryz.underlying2, run_underlying Tryz.underlying9, e1, e2, e3]
      · simp [Op.eqFields, part, isAgg, run_underlying Tryz.underlying4, run_underlying Tryz.underlying2, run_underlying Tryz.underlying9, e1, e2, e3, h3]
    · simp [Op.eqFields, part, isAgg, run_underlying Tryz.underlying4, run_underlying Tryz.underlying2, run_underlying Tryz.underlying9, e1, e2, e3, h2]
  · simp [Op.eqFields, part, isAgg, run_underlying Tryz.underlying4, run_underlying Tryz.underlying2, run_underlying Tryz.underlying9, e1, e2, e3, h1]
@[go_sem high] theorem run_eql_val (w : World) (a1 : Bool) (a2 : Int) (a3 : ByteArray) (b1 : Bool) (b2 : Int) (b3 : ByteArray) :
    (binOp .eql 31 (.agg #[.bool a1, .int .i64 a2, .string a3]) (.agg #[.bool b1, .int .i64 b2, .string b3])).run Tryz.prog w = .ok (.bool (b6 a1 a2 a3 b1 b2 b3)) w := by
  rw [run_eql_struct, jd]; rfl
@[go_sem high] theorem run_neq_val (w : World) (a1 : Bool) (a2 : Int) (a3 : ByteArray) (b1 : Bool) (b2 : Int) (b3 : ByteArray) :
    (binOp .neq 31 (.agg #[.bool a1, .int .i64 a2, .string a3]) (.agg #[.bool b1, .int .i64 b2, .string b3])).run Tryz.prog w = .ok (.bool (!b6 a1 a2 a3 b1 b2 b3)) w := by
  rw [run_neq_struct, jd]; rfl
def kD (a b : Int) : Int := if a < b then -1 else if b < a then 1 else 0
def fD (a b : ByteArray) : Int := if Op.bytesLess a.toList b.toList then -1 else if a.toList == b.toList then 0 else 1
def dc (a b : Val) : Int := if a.t && b.t then fD a.s b.s else if a.t then 1 else if b.t then -1 else kD a.n b.n
theorem nanI (a : Int) (w : World) : Calls Tryz.prog 209 #[.int .i64 a] w fun e w' => e = .returned (.bool false) ∧ w = w' := by
  go_enter Tryz.func209, Tryz.ntmps209
  go_wp2_with fail
  go_ret
  exact ⟨by simp, rfl⟩
theorem nanS (a : ByteArray) (w : World) : Calls Tryz.prog 208 #[.string a] w fun e w' => e = .returned (.bool false) ∧ w = w' := by
  go_enter Tryz.func208, Tryz.ntmps208
  go_wp2_with fail
  go_ret
  exact ⟨by simp, rfl⟩
theorem cmpI_ok (a b : Int) (w : World) : Calls Tryz.prog 207 #[.int .i64 a, .int .i64 b] w fun e w' => e = .returned (.int .i64 (kD a b)) ∧ w = w' := by
  have h3 : a < b ∨ (¬ a < b ∧ b < a) ∨ (¬ a < b ∧ ¬ b < a) := by omega
  rcases h3 with h | ⟨h, h'⟩ | ⟨h, h'⟩
  · have e : kD a b = -1 := by unfold kD; rw [if_pos h]
    have E := BO e
    clear e
    go_enter Tryz.func207, Tryz.ntmps207
    go_wp2_with ((go_at_call 209; refine (nanI _ _).mono ?_; rintro e w' ⟨rfl, rfl⟩))
    go_ret
    exact ⟨by rw [E.out]; rfl, rfl⟩
  · have e : kD a b = 1 := by unfold kD; rw [if_neg h, if_pos h']
    have E := BO e
    clear e
    go_enter Tryz.func207, Tryz.ntmps207
    go_wp2_with ((go_at_call 209; refine (nanI _ _).mono ?_; rintro e w' ⟨rfl, rfl⟩))
    go_ret
    exact ⟨by rw [E.out]; rfl, rfl⟩
  · have e : kD a b = 0 := by unfold kD; rw [if_neg h, if_neg h']
    have E := BO e
    clear e
    go_enter Tryz.func207, Tryz.ntmps207
    go_wp2_with ((go_at_call 209; refine (nanI _ _).mono ?_; rintro e w' ⟨rfl, rfl⟩))
    go_ret
    exact ⟨by rw [E.out]; rfl, rfl⟩
theorem cmpS_ok (a b : ByteArray) (w : World) : Calls Tryz.prog 206 #[.string a, .string b] w fun e w' => e = .returned (.int .i64 (fD a b)) ∧ w = w' := by
  by_cases h : Op.bytesLess a.toList b.toList = true
  · have e : fD a b = -1 := by unfold fD; rw [if_pos h]
    have E := BO e
    clear e
    go_enter Tryz.func206, Tryz.ntmps206
    go_wp2_with ((go_at_call 208; refine (nanS _ _).mono ?_; rintro e w' ⟨rfl, rfl⟩))
    go_ret
    exact ⟨by rw [E.out]; rfl, rfl⟩
  · have hf : Op.bytesLess a.toList b.toList = false := by simpa using h
    by_cases h2 : (a.toList == b.toList) = true
    · have e : fD a b = 0 := by unfold fD; rw [if_neg h, if_pos h2]
      have E := BO e
      clear e h
      go_enter Tryz.func206, Tryz.ntmps206
      go_wp2_with ((go_at_call 208; refine (nanS _ _).mono ?_; rintro e w' ⟨rfl, rfl⟩))
      go_ret
      exact ⟨by rw [E.out]; rfl, rfl⟩
    · have h3 : (a.toList == b.toList) = false := by simpa using h2
      have e : fD a b = 1 := by unfold fD; rw [if_neg h, if_neg h2]
      have E := BO e
      clear e h h2
      go_enter Tryz.func206, Tryz.ntmps206
      go_wp2_with ((go_at_call 208; refine (nanS _ _).mono ?_; rintro e w' ⟨rfl, rfl⟩))
      go_ret
      exact ⟨by rw [E.out]; rfl, rfl⟩
theorem cW (a b : Val) (w : World) : Calls Tryz.prog 202 #[a.v, b.v] w fun e w' => e = .returned (.int .i64 (dc a b)) ∧ Kept (fun _ => False) w w' := by
  obtain ⟨at_, an, as_⟩ := a
  obtain ⟨bt, bn, bs⟩ := b
  have hk : Kept (fun _ => False) w ((w.alloc (.cells #[.bool at_, .int .i64 an, .string as_] 31)).alloc (.cells #[.bool bt, .int .i64 bn, .string bs] 31)) := ((Kept.refl _ _).alloc _).alloc _
  have HK := BO hk
  clear hk
  cases at_ <;> cases bt
  all_goals
    go_enter Tryz.func202, Tryz.ntmps202
    go_wp2_with (first | (go_at_call 206; refine (cmpS_ok _ _ _).mono ?_; rintro e w' ⟨rfl, rfl⟩) | (go_at_call 207; refine (cmpI_ok _ _ _).mono ?_; rintro e w' ⟨rfl, rfl⟩))
    go_ret
    exact ⟨rfl, HK.out⟩
def a9 (v : Val) : Bool := if v.t then decide (v.n = 0) && decide (v.s.size ≤ 12) else decide (v.s = ⟨#[]⟩)
end Go.Proofs.YtgljdkjepdknnaaGreatDoor
