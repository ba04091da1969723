/- Joined texts: A queue as data: who holds what, who waits; what asking, moving, dropping, leaving come to; what they keep to. Predicates, modes and claims as data. A queue of one lock's modes: plain laws. Function values that are asked of elements; places. (printed by genq.py) -/
import Derived.Test.YtgljdkjepdknnaaGreatDoorJ1
import Derived.Shelf.Abstract
import Derived.Deep.Cut
import Derived.Deep.CutBlock
/- A queue as data: who holds what, who waits; what asking, moving, dropping, leaving come to; what they keep to. -/
namespace Go.Proofs.YtgljdkjepdknnaaGreatDoor
set_option linter.unusedSimpArgs false
structure Ent (C : Type) where
  o : Int
  c : C
  more : Bool
structure Rul (C : Type) where
  same : C → C → Bool
  conf : C → C → Bool
  cov : C → C → Bool
  join : C → C → C
structure Qm (C : Type) where
  held : List (Ent C)
  waits : List (Ent C)
section
variable {C : Type} (R : Rul C)
def sameE (o : Int) (c : C) (e : Ent C) : Bool := decide (e.o = o) && R.same e.c c
def ownAt (l : List (Ent C)) (o : Int) (c : C) : Option Nat := l.findIdx? (sameE R o c)
def ofE (o : Int) (e : Ent C) : Bool := decide (e.o = o)
def waitAt (l : List (Ent C)) (o : Int) : Option Nat := l.findIdx? (ofE o)
def meetsE (o : Int) (c : C) (x : Ent C) : Bool := decide (x.o ≠ o) && R.conf x.c c
def freeE (q : Qm C) (o : Int) (c : C) (ahead : List (Ent C)) : Bool := !(q.held.any (meetsE R o c)) && !(ahead.any (meetsE R o c))
def Ent.less (e : Ent C) : Ent C := ⟨e.o, e.c, false⟩
def giveL (l : List (Ent C)) (e : Ent C) : List (Ent C) := match ownAt R l e.o e.c with
  | some k => l.set k e.less
  | none => l ++ [e.less]
def giveQ (q : Qm C) (e : Ent C) : Qm C := ⟨giveL R q.held e, q.waits⟩
def moresN (l : List (Ent C)) : Nat := (l.takeWhile (fun e => e.more)).length
/-- what is asked for, and where it would stand -/
def askFor (q : Qm C) (o : Int) (c : C) : Option (Ent C × Nat) := match ownAt R q.held o c with
  | none => some (⟨o, c, false⟩, q.waits.length)
  | some k => match q.held[k]? with
    | none => none
    | some h => if R.cov h.c c then none else some (⟨o, R.join h.c c, true⟩, moresN q.waits)
def askQ (q : Qm C) (o : Int) (c : C) (wait : Bool) : Qm C × Bool :=
  if (waitAt q.waits o).isSome then (q, false) else
  match askFor R q o c with
  | none => (q, true)
  | some (e, at_) => if freeE R q o e.c (q.waits.take at_) then (giveQ R q e, true) else if wait then (⟨q.held, q.waits.take at_ ++ [e] ++ q.waits.drop at_⟩, false) else (q, false)
def canAt (q : Qm C) (i : Nat) : Bool := match q.waits[i]? with
  | some e => freeE R q e.o e.c (q.waits.take i)
  | none => false
def firstFree (q : Qm C) : Option Nat := (List.range q.waits.length).find? (canAt R q)
def moveQ : Nat → Qm C → Qm C × List Int
  | 0, q => (q, [])
  | n + 1, q => match firstFree R q with
    | none => (q, [])
    | some i => match q.waits[i]? with
      | none => (q, [])
      | some e => let x := moveQ n (giveQ R ⟨q.held, q.waits.eraseIdx i⟩ e); (x.1, e.o :: x.2)
def movedQ (q : Qm C) : Qm C × List Int := moveQ R q.waits.length q
def dropQ (q : Qm C) (gone : Ent C → Bool) : Qm C × List Int := movedQ R ⟨q.held.filter (fun e => !gone e), q.waits⟩
def leaveQ (q : Qm C) (o : Int) : Qm C × List Int := movedQ R ⟨q.held, q.waits.filter (fun e => !ofE o e)⟩
def holdsQ (q : Qm C) (o : Int) : List C := (q.held.filter (ofE o)).map (fun e => e.c)
def blockL (q : Qm C) (o : Int) : List Int := match waitAt q.waits o with
  | none => []
  | some k => match q.waits[k]? with
    | none => []
    | some e => ((q.held ++ q.waits.take k).filter (meetsE R o e.c)).map (fun e => e.o)

end
section
variable {C : Type} {R : Rul C}
structure QOk (q : Qm C) : Prop where
  mores : q.waits.Pairwise (fun a b => b.more = true → a.more = true)
  once : q.waits.Pairwise (fun a b => a.o ≠ b.o)

theorem more_take {l : List (Ent C)} (h : l.Pairwise (fun a b => b.more = true → a.more = true)) : l.takeWhile (fun e => e.more) = l.filter (fun e => e.more) := by
  induction l with
  | nil => rfl
  | cons x l ih =>
    obtain ⟨h1, h2⟩ := List.pairwise_cons.1 h
    cases hx : x.more
    · rw [List.takeWhile_cons_of_neg (by simp [hx]), List.filter_cons_of_neg (by simp [hx])]
      symm
      refine List.filter_eq_nil_iff.2 (fun a ha => ?_)
      intro hm
      have := h1 a ha hm
      rw [hx] at this
      cases this
    · rw [List.takeWhile_cons_of_pos (by simp [hx]), List.filter_cons_of_pos (by simp [hx]), ih h2]
theorem moresN_take (l : List (Ent C)) : l.take (moresN l) = l.takeWhile (fun e => e.more) := by
  unfold moresN
  induction l with
  | nil => rfl
  | cons x l ih =>
    cases hx : x.more
    · rw [List.takeWhile_cons_of_neg (by simp [hx])]; rfl
    · rw [List.takeWhile_cons_of_pos (by simp [hx]), List.length_cons, List.take_succ_cons, ih]
theorem moresN_le (l : List (Ent C)) : moresN l ≤ l.length := by
  unfold moresN
  exact (List.takeWhile_sublist _).length_le
theorem take_more {l : List (Ent C)} {e : Ent C} (h : e ∈ l.take (moresN l)) : e.more = true := by
  rw [moresN_take] at h
  simpa using List.all_eq_true.1 (List.all_takeWhile (l := l) (p := fun e => e.more)) e h
theorem waitAt_none {l : List (Ent C)} {o : Int} (h : (waitAt l o).isSome = false) : ∀ e ∈ l, e.o ≠ o := by
  unfold waitAt at h
  intro e he ho
  have h0 : l.findIdx? (ofE o) = none := by simpa using h
  have := List.findIdx?_eq_none_iff.1 h0 e he
  unfold ofE at this
  simp [ho] at this
theorem askFor_o {q : Qm C} {o : Int} {c : C} {e : Ent C} {i : Nat} (h : askFor R q o c = some (e, i)) : e.o = o ∧ i ≤ q.waits.length ∧ ((e.more = false ∧ i = q.waits.length ∧ e.c = c ∧ ownAt R q.held o c = none) ∨ (e.more = true ∧ i = moresN q.waits ∧ ∃ k x, ownAt R q.held o c = some k ∧ q.held[k]? = some x ∧ R.cov x.c c = false ∧ e.c = R.join x.c c)) := by
  unfold askFor at h
  split at h
  · rename_i h0
    cases h
    exact ⟨rfl, Nat.le_refl _, .inl ⟨rfl, rfl, rfl, h0⟩⟩
  · rename_i k hk
    split at h
    · cases h
    · rename_i x hx
      split at h
      · cases h
      · rename_i hc
        cases h
        exact ⟨rfl, moresN_le _, .inr ⟨rfl, rfl, k, x, hk, hx, by simpa using hc, rfl⟩⟩
theorem ask_ok {q : Qm C} (h : QOk q) (o : Int) (c : C) (b : Bool) : QOk (askQ R q o c b).1 := by
  unfold askQ
  split
  · exact h
  · rename_i hw
    split
    · exact h
    · rename_i e i he
      obtain ⟨ho, hi, hm⟩ := askFor_o he
      split
      · exact ⟨h.mores, h.once⟩
      · split
        · have hne := waitAt_none (o := o) (l := q.waits) (by simpa using hw)
          have hsub : (q.waits.take i ++ q.waits.drop i) = q.waits := List.take_append_drop i _
          refine ⟨?_, ?_⟩
          · show (q.waits.take i ++ [e] ++ q.waits.drop i).Pairwise _
            have hp := h.mores
            rw [← hsub, List.pairwise_append] at hp
            obtain ⟨p1, p2, p3⟩ := hp
            rw [List.append_assoc, List.pairwise_append]
            refine ⟨p1, List.pairwise_cons.2 ⟨fun a ha hm' => ?_, p2⟩, fun a ha b hb hm' => ?_⟩
            · rcases hm with ⟨_, rfl, _⟩ | ⟨hm, _⟩
              · rw [List.drop_length] at ha; cases ha
              · exact hm
            · rcases List.mem_cons.1 hb with rfl | hb
              · rcases hm with ⟨hm, _⟩ | ⟨_, rfl, _⟩
                · rw [hm] at hm'; cases hm'
                · exact take_more ha
              · exact p3 a ha b hb hm'
          · show (q.waits.take i ++ [e] ++ q.waits.drop i).Pairwise _
            have hp := h.once
            rw [← hsub, List.pairwise_append] at hp
            obtain ⟨p1, p2, p3⟩ := hp
            rw [List.append_assoc, List.pairwise_append]
            refine ⟨p1, List.pairwise_cons.2 ⟨fun a ha => ?_, p2⟩, fun a ha b hb => ?_⟩
            · rw [ho]; exact (hne a (List.mem_of_mem_drop ha)).symm
            · rcases List.mem_cons.1 hb with rfl | hb
              · rw [ho]; exact hne a (List.mem_of_mem_take ha)
              · exact p3 a ha b hb
        · exact h
theorem QOk.sub {q : Qm C} (h : QOk q) {l m : List (Ent C)} (hs : l.Sublist q.waits) : QOk ⟨m, l⟩ := ⟨h.mores.sublist hs, h.once.sublist hs⟩
theorem moveQ_some {n : Nat} {q : Qm C} {i : Nat} {e : Ent C} (h : firstFree R q = some i) (he : q.waits[i]? = some e) : moveQ R (n + 1) q = ((moveQ R n (giveQ R ⟨q.held, q.waits.eraseIdx i⟩ e)).1, e.o :: (moveQ R n (giveQ R ⟨q.held, q.waits.eraseIdx i⟩ e)).2) := by
  conv => lhs; unfold moveQ
  simp only [h, he]
theorem moveQ_none {n : Nat} {q : Qm C} (h : firstFree R q = none) : moveQ R n q = (q, []) := by
  cases n with
  | zero => rfl
  | succ n => unfold moveQ; simp only [h]
theorem firstFree_at {q : Qm C} {i : Nat} (h : firstFree R q = some i) : ∃ e, q.waits[i]? = some e ∧ freeE R q e.o e.c (q.waits.take i) = true ∧ i < q.waits.length := by
  unfold firstFree at h
  have h1 := List.find?_some h
  have h2 := List.mem_of_find?_eq_some h
  unfold canAt at h1
  split at h1
  · rename_i e he
    exact ⟨e, he, h1, by simpa using h2⟩
  · cases h1
/-- a thing that each step of moving keeps -/
theorem moveQ_ind {P : Qm C → Prop} (step : ∀ (q : Qm C) (i : Nat) (e : Ent C), P q → firstFree R q = some i → q.waits[i]? = some e → P (giveQ R ⟨q.held, q.waits.eraseIdx i⟩ e)) : ∀ (n : Nat) (q : Qm C), P q → P (moveQ R n q).1
  | 0, q, h => h
  | n + 1, q, h => by
    cases hf : firstFree R q with
    | none => rw [moveQ_none hf]; exact h
    | some i =>
      obtain ⟨e, he, _, _⟩ := firstFree_at hf
      rw [moveQ_some hf he]
      exact moveQ_ind step n _ (step q i e h hf he)
theorem moved_ok {q : Qm C} (h : QOk q) : QOk (movedQ R q).1 :=
  moveQ_ind (P := QOk) (fun q _ _ h _ _ => QOk.sub (q := q) h (List.eraseIdx_sublist _ _)) _ _ h
theorem drop_ok {q : Qm C} (h : QOk q) (g : Ent C → Bool) : QOk (dropQ R q g).1 := moved_ok (QOk.sub h (List.Sublist.refl _))
theorem leave_ok {q : Qm C} (h : QOk q) (o : Int) : QOk (leaveQ R q o).1 := moved_ok (QOk.sub h List.filter_sublist)
theorem moveQ_len : ∀ (n : Nat) (q : Qm C), (moveQ R n q).1.waits.length + (moveQ R n q).2.length = q.waits.length
  | 0, q => rfl
  | n + 1, q => by
    cases hf : firstFree R q with
    | none => rw [moveQ_none hf]; rfl
    | some i =>
      obtain ⟨e, he, _, hlt⟩ := firstFree_at hf
      rw [moveQ_some hf he]
      have := moveQ_len n (giveQ R ⟨q.held, q.waits.eraseIdx i⟩ e)
      have h2 : (giveQ R ⟨q.held, q.waits.eraseIdx i⟩ e).waits.length = q.waits.length - 1 := by
        show (q.waits.eraseIdx i).length = _
        rw [List.length_eraseIdx_of_lt hlt]
      rw [h2] at this
      simp only [List.length_cons]
      omega
theorem moveQ_stuck : ∀ (n : Nat) (q : Qm C), q.waits.length ≤ n → firstFree R (moveQ R n q).1 = none
  | 0, q, h => by
    have : q.waits = [] := List.eq_nil_of_length_eq_zero (by omega)
    show firstFree R q = none
    unfold firstFree
    rw [this]
    rfl
  | n + 1, q, h => by
    cases hf : firstFree R q with
    | none => rw [moveQ_none hf]; exact hf
    | some i =>
      obtain ⟨e, he, _, hlt⟩ := firstFree_at hf
      rw [moveQ_some hf he]
      refine moveQ_stuck n _ ?_
      show (q.waits.eraseIdx i).length ≤ n
      rw [List.length_eraseIdx_of_lt hlt]
      omega
theorem moved_stuck (q : Qm C) : firstFree R (movedQ R q).1 = none := moveQ_stuck _ _ (Nat.le_refl _)
theorem moveQ_more : ∀ (n : Nat) (q : Qm C), q.waits.length ≤ n → moveQ R n q = movedQ R q := by
  intro n
  induction n with
  | zero =>
    intro q h
    have : q.waits.length = 0 := by omega
    unfold movedQ
    rw [this]
  | succ n ih =>
    intro q h
    by_cases hq : q.waits.length = n + 1
    · unfold movedQ; rw [hq]
    · have h1 := ih q (by omega)
      rw [← h1]
      clear ih h1
      have : ∀ (n : Nat) (q : Qm C), q.waits.length ≤ n → moveQ R (n + 1) q = moveQ R n q := by
        intro n
        induction n with
        | zero =>
          intro q h
          have h0 : q.waits = [] := List.eq_nil_of_length_eq_zero (by omega)
          have : firstFree R q = none := by unfold firstFree; rw [h0]; rfl
          rw [moveQ_none this, moveQ_none this]
        | succ n ih =>
          intro q h
          cases hf : firstFree R q with
          | none => rw [moveQ_none hf, moveQ_none hf]
          | some i =>
            obtain ⟨e, he, _, hlt⟩ := firstFree_at hf
            rw [moveQ_some hf he, moveQ_some hf he, ih _ (by show (q.waits.eraseIdx i).length ≤ n; rw [List.length_eraseIdx_of_lt hlt]; omega)]
      exact this n q (by omega)
/-- one step of moving -/
theorem moved_some {q : Qm C} {i : Nat} {e : Ent C} (h : firstFree R q = some i) (he : q.waits[i]? = some e) : movedQ R q = ((movedQ R (giveQ R ⟨q.held, q.waits.eraseIdx i⟩ e)).1, e.o :: (movedQ R (giveQ R ⟨q.held, q.waits.eraseIdx i⟩ e)).2) := by
  have hlt := (List.getElem?_eq_some_iff.1 he).1
  have hl : (giveQ R ⟨q.held, q.waits.eraseIdx i⟩ e).waits.length = q.waits.length - 1 := by
    show (q.waits.eraseIdx i).length = _
    rw [List.length_eraseIdx_of_lt hlt]
  rw [← moveQ_more q.waits.length q (Nat.le_refl _)]
  obtain ⟨m, hm⟩ : ∃ m, q.waits.length = m + 1 := ⟨q.waits.length - 1, by omega⟩
  rw [hm, moveQ_some h he, moveQ_more m _ (by omega)]
theorem moved_none {q : Qm C} (h : firstFree R q = none) : movedQ R q = (q, []) := moveQ_none h
end
section
variable {C : Type} {R : Rul C}
/-! what is held -/
theorem giveL_mem {l : List (Ent C)} {e x : Ent C} (h : x ∈ giveL R l e) : x ∈ l ∨ x = e.less := by
  unfold giveL at h
  split at h
  · exact List.mem_or_eq_of_mem_set h
  · simpa using h
/-- no two of different owners are in conflict -/
def Apart (R : Rul C) (l : List (Ent C)) : Prop := ∀ x ∈ l, ∀ y ∈ l, x.o ≠ y.o → R.conf x.c y.c = false
theorem give_apart {q : Qm C} (sym : ∀ a b, R.conf a b = R.conf b a) {e : Ent C} {ah : List (Ent C)} (h : Apart R q.held) (hf : freeE R q e.o e.c ah = true) : Apart R (giveL R q.held e) := by
  have h1 : ∀ x ∈ q.held, x.o ≠ e.o → R.conf x.c e.c = false := by
    intro x hx ho
    unfold freeE at hf
    simp only [Bool.and_eq_true, Bool.not_eq_true', List.any_eq_false] at hf
    have := hf.1 x hx
    unfold meetsE at this
    simpa [ho] using this
  intro x hx y hy ho
  rcases giveL_mem hx with hx | rfl <;> rcases giveL_mem hy with hy | rfl
  · exact h x hx y hy ho
  · exact h1 x hx ho
  · rw [sym]; exact h1 y hy (Ne.symm ho)
  · exact absurd rfl ho
theorem ask_apart {q : Qm C} (sym : ∀ a b, R.conf a b = R.conf b a) (h : Apart R q.held) (o : Int) (c : C) (b : Bool) : Apart R (askQ R q o c b).1.held := by
  unfold askQ
  split
  · exact h
  · split
    · exact h
    · rename_i e i he
      obtain ⟨ho, _, _⟩ := askFor_o he
      split
      · rename_i hf
        exact give_apart sym h (by rw [ho]; exact hf)
      · split <;> exact h
theorem moved_apart {q : Qm C} (sym : ∀ a b, R.conf a b = R.conf b a) (h : Apart R q.held) : Apart R (movedQ R q).1.held :=
  moveQ_ind (P := fun q => Apart R q.held) (fun q i e h hf he => by
    obtain ⟨e', he', hfr, _⟩ := firstFree_at hf
    rw [he] at he'
    cases he'
    exact give_apart (q := q) sym h hfr) _ _ h
theorem Apart.sub {l m : List (Ent C)} (h : Apart R l) (hs : ∀ x ∈ m, x ∈ l) : Apart R m := fun x hx y hy => h x (hs x hx) y (hs y hy)
theorem drop_apart {q : Qm C} (sym : ∀ a b, R.conf a b = R.conf b a) (h : Apart R q.held) (g : Ent C → Bool) : Apart R (dropQ R q g).1.held := moved_apart sym (h.sub (fun _ hx => (List.mem_filter.1 hx).1))
theorem leave_apart {q : Qm C} (sym : ∀ a b, R.conf a b = R.conf b a) (h : Apart R q.held) (o : Int) : Apart R (leaveQ R q o).1.held := moved_apart sym h
theorem holds_mem {q : Qm C} {o : Int} {c : C} (h : c ∈ holdsQ q o) : ∃ e ∈ q.held, e.o = o ∧ e.c = c := by
  unfold holdsQ at h
  obtain ⟨e, he, rfl⟩ := List.mem_map.1 h
  obtain ⟨h1, h2⟩ := List.mem_filter.1 he
  exact ⟨e, h1, by simpa [ofE] using h2, rfl⟩

/-! what each thing that is there keeps to -/
/-- of all that is held and waited for P holds -/
def AllE (P : Int → C → Prop) (q : Qm C) : Prop := (∀ e ∈ q.held, P e.o e.c) ∧ ∀ e ∈ q.waits, P e.o e.c
theorem give_all {P : Int → C → Prop} {l : List (Ent C)} {e : Ent C} (h : ∀ x ∈ l, P x.o x.c) (he : P e.o e.c) : ∀ x ∈ giveL R l e, P x.o x.c := by
  intro x hx
  rcases giveL_mem hx with hx | rfl
  · exact h x hx
  · exact he
theorem moved_all {P : Int → C → Prop} {q : Qm C} (h : AllE P q) : AllE P (movedQ R q).1 :=
  moveQ_ind (P := AllE P) (fun _ _ e h _ he => ⟨give_all h.1 (h.2 e (List.mem_of_getElem? he)), fun x hx => h.2 x (List.mem_of_mem_eraseIdx hx)⟩) _ _ h
theorem drop_all {P : Int → C → Prop} {q : Qm C} (h : AllE P q) (g : Ent C → Bool) : AllE P (dropQ R q g).1 := moved_all ⟨fun x hx => h.1 x (List.mem_filter.1 hx).1, h.2⟩
theorem leave_all {P : Int → C → Prop} {q : Qm C} (h : AllE P q) (o : Int) : AllE P (leaveQ R q o).1 := moved_all ⟨h.1, fun x hx => h.2 x (List.mem_filter.1 hx).1⟩
theorem ask_all {P : Int → C → Prop} {q : Qm C} (h : AllE P q) (o : Int) (c : C) (b : Bool) (hc : P o c) (hj : ∀ x, P o x → P o (R.join x c)) : AllE P (askQ R q o c b).1 := by
  unfold askQ
  split
  · exact h
  · split
    · exact h
    · rename_i e i he
      obtain ⟨ho, _, hm⟩ := askFor_o he
      have hP : P e.o e.c := by
        rcases hm with ⟨_, _, hc', _⟩ | ⟨_, _, k, x, hk, hx, _, hc'⟩
        · rw [ho, hc']; exact hc
        · rw [ho, hc']
          refine hj _ ?_
          have h1 := h.1 x (List.mem_of_getElem? hx)
          have h2 : sameE R o c x = true := by
            unfold ownAt at hk
            obtain ⟨_, hk2, _⟩ := List.findIdx?_eq_some_iff_getElem.1 hk
            rw [List.getElem?_eq_getElem (by assumption)] at hx
            cases hx
            exact hk2
          unfold sameE at h2
          have : x.o = o := by simp at h2; exact h2.1
          rw [← this]; exact h1
      split
      · exact ⟨give_all h.1 hP, h.2⟩
      · split
        · refine ⟨h.1, fun x hx => ?_⟩
          rcases List.mem_append.1 hx with hx | hx
          · rcases List.mem_append.1 hx with hx | hx
            · exact h.2 x (List.mem_of_mem_take hx)
            · obtain rfl := List.mem_singleton.1 hx; exact hP
          · exact h.2 x (List.mem_of_mem_drop hx)
        · exact h

/-! who waits is blocked -/
def Stuck (R : Rul C) (q : Qm C) : Prop := ∀ (i : Nat) (e : Ent C), q.waits[i]? = some e → freeE R q e.o e.c (q.waits.take i) = false
theorem stuck_iff {q : Qm C} : Stuck R q ↔ firstFree R q = none := by
  unfold firstFree Stuck
  rw [List.find?_eq_none]
  constructor
  · intro h i hi
    unfold canAt
    have hlt : i < q.waits.length := by simpa using hi
    rw [List.getElem?_eq_getElem hlt]
    have := h i _ (List.getElem?_eq_getElem hlt)
    simp [this]
  · intro h i e he
    have hlt := (List.getElem?_eq_some_iff.1 he).1
    have := h i (by simpa using hlt)
    unfold canAt at this
    rw [he] at this
    simpa using this
theorem free_false {q : Qm C} {o : Int} {c : C} {ah : List (Ent C)} : freeE R q o c ah = false ↔ ∃ x, (x ∈ q.held ∨ x ∈ ah) ∧ x.o ≠ o ∧ R.conf x.c c = true := by
  unfold freeE
  rw [Bool.and_eq_false_iff, Bool.not_eq_false', Bool.not_eq_false', List.any_eq_true, List.any_eq_true]
  unfold meetsE
  constructor
  · rintro (⟨x, hx, h⟩ | ⟨x, hx, h⟩)
    · exact ⟨x, .inl hx, by simpa using h⟩
    · exact ⟨x, .inr hx, by simpa using h⟩
  · rintro ⟨x, hx | hx, h⟩
    · exact .inl ⟨x, hx, by simpa using h⟩
    · exact .inr ⟨x, hx, by simpa using h⟩
theorem own_at {l : List (Ent C)} {o : Int} {c : C} {k : Nat} (h : ownAt R l o c = some k) : ∃ x, l[k]? = some x ∧ x.o = o ∧ R.same x.c c = true ∧ k < l.length := by
  unfold ownAt at h
  obtain ⟨hlt, hk, _⟩ := List.findIdx?_eq_some_iff_getElem.1 h
  unfold sameE at hk
  rw [Bool.and_eq_true, decide_eq_true_eq] at hk
  exact ⟨l[k], List.getElem?_eq_getElem hlt, hk.1, hk.2, hlt⟩
/-- giving keeps what blocks, if what is given blocks all that its own thing did -/
theorem give_blocks {l : List (Ent C)} {e x : Ent C} (hx : x ∈ l) (hm : ∀ k y, ownAt R l e.o e.c = some k → l[k]? = some y → ∀ c, R.conf y.c c = true → R.conf e.c c = true) {o : Int} {c : C} (ho : x.o ≠ o) (hc : R.conf x.c c = true) : ∃ y ∈ giveL R l e, y.o ≠ o ∧ R.conf y.c c = true := by
  unfold giveL
  split
  · rename_i k hk
    obtain ⟨y, hy, hyo, _, hlt⟩ := own_at hk
    obtain ⟨i, hi, rfl⟩ := List.mem_iff_getElem.1 hx
    by_cases hik : i = k
    · subst hik
      have hyx : l[i] = y := by rw [List.getElem?_eq_getElem hi] at hy; exact Option.some.inj hy
      refine ⟨e.less, ?_, ?_, ?_⟩
      · exact List.mem_iff_getElem.2 ⟨i, by simpa using hi, by simp⟩
      · show e.o ≠ o
        rw [← hyo, ← hyx]; exact ho
      · exact hm i y hk hy c (by rw [← hyx]; exact hc)
    · exact ⟨l[i], List.mem_iff_getElem.2 ⟨i, by simpa using hi, by rw [List.getElem_set_ne (Ne.symm hik)]⟩, ho, hc⟩
  · exact ⟨x, List.mem_append.2 (.inl hx), ho, hc⟩
end
section
variable {C : Type} {R : Rul C}
/-- what the rules keep to, of things of which P holds -/
structure RulOk (R : Rul C) (P : C → Prop) : Prop where
  sym : ∀ a b, R.conf a b = R.conf b a
  own : ∀ h c y, R.same h c = true → R.same y (R.join h c) = R.same y c
  keep : ∀ h c y, P h → P c → R.same h c = true → R.conf h y = true → R.conf (R.join h c) y = true
theorem ownAt_join {P : C → Prop} (hR : RulOk R P) {l : List (Ent C)} {o : Int} {h c : C} (hs : R.same h c = true) : ownAt R l o (R.join h c) = ownAt R l o c := by
  unfold ownAt
  have : sameE R o (R.join h c) = sameE R o c := funext fun e => by unfold sameE; rw [hR.own h c e.c hs]
  rw [this]
theorem ins_get {α : Type} {l : List α} {at_ i : Nat} {e x : α} (ha : at_ ≤ l.length) (h : (l.take at_ ++ [e] ++ l.drop at_)[i]? = some x) :
    (i < at_ ∧ l[i]? = some x ∧ (l.take at_ ++ [e] ++ l.drop at_).take i = l.take i) ∨ (i = at_ ∧ x = e ∧ (l.take at_ ++ [e] ++ l.drop at_).take i = l.take at_) ∨ (∃ j, i = j + 1 ∧ at_ ≤ j ∧ l[j]? = some x ∧ ∀ y ∈ l.take j, y ∈ (l.take at_ ++ [e] ++ l.drop at_).take i) := by
  have hl : (l.take at_).length = at_ := by rw [List.length_take]; omega
  rcases Nat.lt_trichotomy i at_ with hi | hi | hi
  · left
    refine ⟨hi, ?_, ?_⟩
    · rw [List.append_assoc, List.getElem?_append_left (by omega), List.getElem?_take, if_pos hi] at h
      exact h
    · rw [List.append_assoc, List.take_append_of_le_length (by omega), List.take_take, Nat.min_eq_left (by omega)]
  · right; left
    subst hi
    refine ⟨rfl, ?_, ?_⟩
    · rw [List.append_assoc, List.getElem?_append_right (by omega), hl] at h
      simpa using h.symm
    · rw [List.append_assoc, List.take_append_of_le_length (by omega), List.take_of_length_le (by omega)]
  · right; right
    obtain ⟨j, rfl⟩ : ∃ j, i = j + 1 := ⟨i - 1, by omega⟩
    refine ⟨j, rfl, by omega, ?_, ?_⟩
    · rw [List.append_assoc, List.getElem?_append_right (by omega), hl] at h
      have e1 : j + 1 - at_ = (j - at_) + 1 := by omega
      rw [e1] at h
      simp only [List.cons_append, List.nil_append, List.getElem?_cons_succ, List.getElem?_drop] at h
      rw [show at_ + (j - at_) = j by omega] at h
      exact h
    · intro y hy
      rw [List.append_assoc, List.take_append, hl, List.take_of_length_le (by omega)]
      have e1 : j + 1 - at_ = (j - at_) + 1 := by omega
      rw [e1]
      have hj : l.take j = l.take at_ ++ (l.drop at_).take (j - at_) := by
        have : j = at_ + (j - at_) := by omega
        conv => lhs; rw [this]
        rw [List.take_add]
      rw [hj] at hy
      rcases List.mem_append.1 hy with hy | hy
      · exact List.mem_append.2 (.inl hy)
      · exact List.mem_append.2 (.inr (by simp [hy]))
theorem ask_stuck {P : C → Prop} (hR : RulOk R P) {q : Qm C} (h : Stuck R q) (hP : AllE (fun _ => P) q) (o : Int) (c : C) (b : Bool) (hc : P c) : Stuck R (askQ R q o c b).1 := by
  unfold askQ
  split
  · exact h
  · split
    · exact h
    · rename_i e i he
      obtain ⟨ho, hi, hm⟩ := askFor_o he
      split
      · rename_i hf
        intro j x hx
        refine free_false.2 ?_
        obtain ⟨y, hy, hyo, hyc⟩ := free_false.1 (h j x hx)
        rcases hy with hy | hy
        · obtain ⟨z, hz, hzo, hzc⟩ := give_blocks (R := R) (e := e) hy (fun k y0 hk hy0 c0 hc0 => by
            rcases hm with ⟨_, _, hec, hn⟩ | ⟨_, _, k0, x0, hk0, hx0, _, hec⟩
            · rw [ho, hec, hn] at hk; cases hk
            · obtain ⟨x1, hx1, _, hs, _⟩ := own_at hk0
              rw [hx0] at hx1
              obtain rfl := Option.some.inj hx1
              rw [ho, hec, ownAt_join hR hs, hk0] at hk
              cases hk
              rw [hx0] at hy0
              obtain rfl := Option.some.inj hy0
              rw [hec]
              exact hR.keep _ _ _ (hP.1 _ (List.mem_of_getElem? hx0)) hc hs hc0) hyo hyc
          exact ⟨z, .inl hz, hzo, hzc⟩
        · exact ⟨y, .inr hy, hyo, hyc⟩
      · rename_i hf
        split
        · intro j x hx
          refine free_false.2 ?_
          rcases ins_get hi hx with ⟨_, hj, ht⟩ | ⟨rfl, rfl, ht⟩ | ⟨k, rfl, _, hj, ht⟩
          · obtain ⟨y, hy, hyo, hyc⟩ := free_false.1 (h j x hj)
            exact ⟨y, by rw [ht]; exact hy, hyo, hyc⟩
          · obtain ⟨y, hy, hyo, hyc⟩ := free_false.1 (by simpa using hf : freeE R q o x.c (q.waits.take j) = false)
            exact ⟨y, by rw [ht]; exact hy, by rw [ho]; exact hyo, hyc⟩
          · obtain ⟨y, hy, hyo, hyc⟩ := free_false.1 (h k x hj)
            exact ⟨y, hy.imp (fun h => h) (ht y), hyo, hyc⟩
        · exact h
theorem moved_Stuck (q : Qm C) : Stuck R (movedQ R q).1 := stuck_iff.2 (moved_stuck q)

/-! for whom somebody waits -/
theorem waitAt_get {l : List (Ent C)} {o : Int} {k : Nat} (h : waitAt l o = some k) : ∃ e, l[k]? = some e ∧ e.o = o := by
  unfold waitAt at h
  obtain ⟨hlt, hk, _⟩ := List.findIdx?_eq_some_iff_getElem.1 h
  exact ⟨l[k], List.getElem?_eq_getElem hlt, by simpa [ofE] using hk⟩
theorem block_stuck {q : Qm C} (h : Stuck R q) (o : Int) : blockL R q o ≠ [] ↔ (waitAt q.waits o).isSome = true := by
  unfold blockL
  split
  · rename_i hn
    simp [hn]
  · rename_i k hk
    obtain ⟨e, he, ho⟩ := waitAt_get hk
    obtain ⟨x, hx, hxo, hxc⟩ := free_false.1 (h k e he)
    have : x ∈ (q.held ++ q.waits.take k).filter (meetsE R o e.c) := List.mem_filter.2 ⟨List.mem_append.2 hx, by unfold meetsE; rw [ho] at hxo; simp [hxo, hxc]⟩
    refine iff_of_true ?_ (by rw [hk]; rfl)
    rw [he]
    dsimp only
    intro h0
    rw [List.map_eq_nil_iff] at h0
    rw [h0] at this
    cases this
theorem block_self {q : Qm C} {o p : Int} (h : p ∈ blockL R q o) : p ≠ o := by
  unfold blockL at h
  split at h
  · cases h
  · split at h
    · cases h
    · obtain ⟨e, he, rfl⟩ := List.mem_map.1 h
      have := (List.mem_filter.1 he).2
      unfold meetsE at this
      simp at this
      exact this.1

/-! where all leave and drop all -/
theorem leave_none {q : Qm C} {o : Int} : ∀ e ∈ (leaveQ R q o).1.waits, e.o ≠ o := by
  exact moveQ_ind (P := fun q => ∀ e ∈ q.waits, e.o ≠ o) (fun _ _ _ h _ _ x hx => h x (List.mem_of_mem_eraseIdx hx)) _ _ (fun e he => by simpa [ofE] using (List.mem_filter.1 he).2)
theorem moved_sub (q : Qm C) : (movedQ R q).1.waits.Sublist q.waits :=
  moveQ_ind (P := fun p => p.waits.Sublist q.waits) (fun _ _ _ h _ _ => (List.eraseIdx_sublist _ _).trans h) _ _ (List.Sublist.refl _)
theorem moved_len (q : Qm C) : (movedQ R q).1.waits.length + (movedQ R q).2.length = q.waits.length := moveQ_len _ _
end
section
variable {C : Type} {R : Rul C}
/-! rising rows of numbers -/
abbrev Rise (l : List Int) : Prop := l.Pairwise (· < ·)
theorem rise_eq : ∀ {a b : List Int}, Rise a → Rise b → (∀ x, x ∈ a ↔ x ∈ b) → a = b
  | [], [], _, _, _ => rfl
  | [], y :: b, _, _, h => by have := (h y).2 (by simp); cases this
  | x :: a, [], _, _, h => by have := (h x).1 (by simp); cases this
  | x :: a, y :: b, ha, hb, h => by
    obtain ⟨a1, a2⟩ := List.pairwise_cons.1 ha
    obtain ⟨b1, b2⟩ := List.pairwise_cons.1 hb
    have hxy : x = y := by
      rcases List.mem_cons.1 ((h x).1 (by simp)) with h1 | h1
      · exact h1
      · rcases List.mem_cons.1 ((h y).2 (by simp)) with h2 | h2
        · exact h2.symm
        · have := a1 y h2
          have := b1 x h1
          omega
    subst hxy
    congr 1
    refine rise_eq a2 b2 (fun z => ?_)
    constructor
    · intro hz
      rcases List.mem_cons.1 ((h z).1 (List.mem_cons_of_mem _ hz)) with h1 | h1
      · have := a1 z hz; omega
      · exact h1
    · intro hz
      rcases List.mem_cons.1 ((h z).2 (List.mem_cons_of_mem _ hz)) with h1 | h1
      · have := b1 z hz; omega
      · exact h1
/-- one more, once -/
def putI (l : List Int) (n : Int) : List Int := if n ∈ l then l else l.takeWhile (fun x => decide (x < n)) ++ n :: l.dropWhile (fun x => decide (x < n))
theorem putI_mem (l : List Int) (n x : Int) : x ∈ putI l n ↔ x ∈ l ∨ x = n := by
  unfold putI
  split
  · rename_i h
    constructor
    · exact .inl
    · rintro (h1 | rfl)
      · exact h1
      · exact h
  · conv => rhs; lhs; rw [← List.takeWhile_append_dropWhile (p := fun x => decide (x < n)) (l := l)]
    simp only [List.mem_append, List.mem_cons]
    constructor
    · rintro (h | h | h)
      · exact .inl (.inl h)
      · exact .inr h
      · exact .inl (.inr h)
    · rintro ((h | h) | h)
      · exact .inl h
      · exact .inr (.inr h)
      · exact .inr (.inl h)
theorem rise_drop {l : List Int} {n : Int} (h : Rise l) : ∀ x ∈ l.dropWhile (fun x => decide (x < n)), n ≤ x := by
  induction l with
  | nil => intro x hx; cases hx
  | cons y l ih =>
    obtain ⟨h1, h2⟩ := List.pairwise_cons.1 h
    intro x hx
    by_cases hy : y < n
    · rw [List.dropWhile_cons_of_pos (by simpa using hy)] at hx
      exact ih h2 x hx
    · rw [List.dropWhile_cons_of_neg (by simpa using hy)] at hx
      rcases List.mem_cons.1 hx with rfl | hx
      · omega
      · have := h1 x hx; omega
theorem putI_rise {l : List Int} (n : Int) (h : Rise l) : Rise (putI l n) := by
  unfold putI
  split
  · exact h
  · rename_i hn
    have hsp := h
    rw [← List.takeWhile_append_dropWhile (p := fun x => decide (x < n)) (l := l)] at hsp
    obtain ⟨p1, p2, p3⟩ := List.pairwise_append.1 hsp
    refine List.pairwise_append.2 ⟨p1, List.pairwise_cons.2 ⟨fun x hx => ?_, p2⟩, fun a ha b hb => ?_⟩
    · have h1 := rise_drop (n := n) h x hx
      have : x ≠ n := fun e => hn (by rw [← e]; exact (List.dropWhile_sublist _).subset hx)
      omega
    · have h1 : a < n := by simpa using List.all_eq_true.1 (List.all_takeWhile (l := l) (p := fun x => decide (x < n))) a ha
      rcases List.mem_cons.1 hb with rfl | hb
      · exact h1
      · exact p3 a ha b hb
def putAll (l : List Int) : List Int := l.foldl putI []
theorem putAll_go (l : List Int) : ∀ (m : List Int), Rise m → Rise (l.foldl putI m) ∧ ∀ x, x ∈ l.foldl putI m ↔ x ∈ m ∨ x ∈ l := by
  induction l with
  | nil => intro m hm; exact ⟨hm, fun x => by simp⟩
  | cons y l ih =>
    intro m hm
    obtain ⟨h1, h2⟩ := ih (putI m y) (putI_rise y hm)
    refine ⟨h1, fun x => ?_⟩
    show x ∈ l.foldl putI (putI m y) ↔ _
    rw [h2, putI_mem, List.mem_cons]
    constructor
    · rintro ((h | h) | h)
      · exact .inl h
      · exact .inr (.inl h)
      · exact .inr (.inr h)
    · rintro (h | h | h)
      · exact .inl (.inl h)
      · exact .inl (.inr h)
      · exact .inr h
theorem putAll_rise (l : List Int) : Rise (putAll l) := (putAll_go l [] List.Pairwise.nil).1
theorem putAll_mem (l : List Int) (x : Int) : x ∈ putAll l ↔ x ∈ l := by
  have := (putAll_go l [] List.Pairwise.nil).2 x
  unfold putAll
  rw [this]
  simp
/-- whatever rises and has the same -/
theorem putAll_eq {l m : List Int} (h : Rise m) (hm : ∀ x, x ∈ m ↔ x ∈ l) : m = putAll l := rise_eq h (putAll_rise l) (fun x => by rw [hm, putAll_mem])
theorem putAll_nil {l : List Int} : putAll l = [] ↔ l = [] := by
  constructor
  · intro h
    cases l with
    | nil => rfl
    | cons x l => have := (putAll_mem (x :: l) x).2 (by simp); rw [h] at this; cases this
  · rintro rfl; rfl
end
section
variable {C : Type} {R : Rul C}
/-! counted owner by owner -/
def ltE (n : Int) (e : Ent C) : Bool := decide (e.o < n)
theorem ltE_succ (n : Int) : ∀ l : List (Ent C), (l.filter (ltE (n + 1))).length = (l.filter (ltE n)).length + (l.filter (ofE n)).length
  | [] => rfl
  | e :: l => by
    have ih := ltE_succ n l
    rw [List.filter_cons, List.filter_cons, List.filter_cons]
    have h : (ltE (n + 1) e = (ltE n e || ofE n e)) ∧ (ltE n e && ofE n e) = false := by
      unfold ltE ofE
      refine ⟨?_, ?_⟩
      · rw [Bool.eq_iff_iff]; simp; omega
      · rw [Bool.and_eq_false_iff]; simp; omega
    rw [h.1]
    have h2 := h.2
    cases h3 : ltE n e <;> cases h4 : ofE n e <;> simp_all <;> omega
theorem ltE_all {l : List (Ent C)} {n : Int} (h : ∀ e ∈ l, e.o < n) : l.filter (ltE n) = l := List.filter_eq_self.2 (fun e he => by unfold ltE; simpa using h e he)
theorem ltE_none {l : List (Ent C)} {n : Int} (h : ∀ e ∈ l, n ≤ e.o) : l.filter (ltE n) = [] := List.filter_eq_nil_iff.2 (fun e he => by unfold ltE; have := h e he; simp; omega)
theorem wait_count {l : List (Ent C)} (h : l.Pairwise (fun a b => a.o ≠ b.o)) (o : Int) : (l.filter (ofE o)).length = if (waitAt l o).isSome then 1 else 0 := by
  induction l with
  | nil => rfl
  | cons e l ih =>
    obtain ⟨h1, h2⟩ := List.pairwise_cons.1 h
    have ih := ih h2
    unfold waitAt at *
    rw [List.filter_cons, List.findIdx?_cons]
    by_cases ho : ofE o e = true
    · rw [if_pos ho, if_pos ho]
      have : l.filter (ofE o) = [] := List.filter_eq_nil_iff.2 (fun x hx => by
        have := h1 x hx
        unfold ofE at ho ⊢
        simp at ho ⊢
        omega)
      simp [this]
    · rw [if_neg ho, if_neg ho, ih]
      simp
/-- of all that is there -/
theorem len_eight {q : Qm C} (h : AllE (fun p _ => 0 ≤ p ∧ p ≤ 7) q) : (q.held.filter (ltE 8)).length + (q.waits.filter (ltE 8)).length = q.held.length + q.waits.length := by
  rw [ltE_all (fun e he => by have := h.1 e he; omega), ltE_all (fun e he => by have := h.2 e he; omega)]

/-! leaving and dropping all -/
theorem ends_step {q : Qm C} {P : Int → C → Prop} (h : AllE P q) (o : Int) : AllE (fun p c => P p c ∧ p ≠ o) (dropQ R (leaveQ R q o).1 (ofE o)).1 := by
  have h1 := leave_all (R := R) h o
  refine moved_all ⟨fun x hx => ?_, fun x hx => ⟨h1.2 x hx, leave_none x hx⟩⟩
  obtain ⟨a, b⟩ := List.mem_filter.1 hx
  exact ⟨h1.1 x a, by simpa [ofE] using b⟩
theorem leave_len {q : Qm C} (h : QOk q) (o : Int) : (leaveQ R q o).1.waits.length + (leaveQ R q o).2.length + (if (waitAt q.waits o).isSome then 1 else 0) = q.waits.length := by
  have h1 := moved_len (R := R) ⟨q.held, q.waits.filter (fun e => !ofE o e)⟩
  rw [← wait_count h.once o]
  have h2 : ∀ l : List (Ent C), (l.filter (fun e => !ofE o e)).length + (l.filter (ofE o)).length = l.length := by
    intro l
    induction l with
    | nil => rfl
    | cons e l ih =>
      rw [List.filter_cons, List.filter_cons]
      cases he : ofE o e <;> simp <;> omega
  have := h2 q.waits
  show (movedQ R ⟨q.held, q.waits.filter (fun e => !ofE o e)⟩).1.waits.length + (movedQ R ⟨q.held, q.waits.filter (fun e => !ofE o e)⟩).2.length + _ = _
  rw [h1]
  exact this
theorem drop_len (q : Qm C) (g : Ent C → Bool) : (dropQ R q g).1.waits.length + (dropQ R q g).2.length = q.waits.length := moved_len _
theorem holds_nil {q : Qm C} {o : Int} (h : ∀ e ∈ q.held, e.o ≠ o) : holdsQ q o = [] := by
  unfold holdsQ
  rw [List.filter_eq_nil_iff.2 (fun e he => by unfold ofE; simpa using h e he)]
  rfl

/-! trying -/
theorem set_owner {l : List (Ent C)} {k : Nat} {x e : Ent C} {o : Int} (hx : l[k]? = some x) (ho : x.o = e.o) : ((l.set k e).filter (ofE o)).length = (l.filter (ofE o)).length := by
  obtain ⟨hlt, rfl⟩ := List.getElem?_eq_some_iff.1 hx
  have e1 : l = l.take k ++ l[k] :: l.drop (k + 1) := by rw [← List.drop_eq_getElem_cons hlt, List.take_append_drop]
  rw [List.set_eq_take_append_cons_drop, if_pos hlt]
  conv => rhs; rw [e1]
  simp only [List.filter_append, List.length_append, List.filter_cons]
  have : ofE o e = ofE o l[k] := by unfold ofE; rw [ho]
  rw [this]
  split <;> simp
/-- what is tried for -/
theorem try_view {q : Qm C} (o : Int) (c : C) (hj : ∀ h, R.same h c = true → R.same (R.join h c) c = true) : ((askQ R q o c false).2 = false ∧ (askQ R q o c false).1 = q) ∨
    ((askQ R q o c false).2 = true ∧ (waitAt q.waits o).isSome = false ∧ (holdsQ q o).length ≤ (holdsQ (askQ R q o c false).1 o).length ∧ (askQ R q o c false).1.waits = q.waits ∧
      (askQ R q o c false).1.held.length + (holdsQ q o).length = q.held.length + (holdsQ (askQ R q o c false).1 o).length ∧ (R.same c c = true → ∃ x ∈ holdsQ (askQ R q o c false).1 o, R.same x c = true)) := by
  unfold askQ
  cases hw : (waitAt q.waits o).isSome
  · simp only [Bool.false_eq_true, if_false]
    cases ha : askFor R q o c with
    | none =>
      right
      refine ⟨by simp, by simp, Nat.le_refl _, rfl, rfl, fun _ => ?_⟩
      unfold askFor at ha
      split at ha
      · cases ha
      · rename_i k hk
        obtain ⟨x, hx, hxo, hs, _⟩ := own_at hk
        refine ⟨x.c, ?_, hs⟩
        unfold holdsQ
        exact List.mem_map.2 ⟨x, List.mem_filter.2 ⟨List.mem_of_getElem? hx, by unfold ofE; simp [hxo]⟩, rfl⟩
    | some p =>
      obtain ⟨e, i⟩ := p
      obtain ⟨ho, _, hm⟩ := askFor_o ha
      dsimp only
      cases hf : freeE R q o e.c (q.waits.take i)
      · left
        simp
      · right
        simp only [if_true]
        have hsame : R.same c c = true → R.same e.c c = true := by
          rcases hm with ⟨_, _, hc, _⟩ | ⟨_, _, k, x, hk, hx, _, hc⟩
          · rw [hc]; exact fun h => h
          · obtain ⟨x1, hx1, _, hs, _⟩ := own_at hk
            rw [hx] at hx1
            obtain rfl := Option.some.inj hx1
            rw [hc]
            exact fun _ => hj _ hs
        have hheld : (holdsQ q o).length ≤ (holdsQ (giveQ R q e) o).length ∧ (giveQ R q e).held.length + (holdsQ q o).length = q.held.length + (holdsQ (giveQ R q e) o).length ∧ e.c ∈ holdsQ (giveQ R q e) o := by
          unfold holdsQ giveQ giveL
          dsimp only
          rw [List.length_map, List.length_map]
          split
          · rename_i k hk
            obtain ⟨x, hx, hxo, _, hlt⟩ := own_at hk
            rw [set_owner hx (by show x.o = e.less.o; exact hxo), List.length_set]
            refine ⟨Nat.le_refl _, rfl, List.mem_map.2 ⟨e.less, List.mem_filter.2 ⟨?_, by unfold ofE Ent.less; simp [ho]⟩, rfl⟩⟩
            exact List.mem_iff_getElem.2 ⟨k, by simpa using hlt, by simp⟩
          · rw [List.filter_append, List.length_append, List.length_append]
            have : ofE o e.less = true := by unfold ofE Ent.less; simp [ho]
            simp only [List.filter_cons, this, if_true, List.filter_nil, List.length_cons, List.length_nil]
            refine ⟨by omega, by omega, ?_⟩
            simp [Ent.less]
        exact ⟨by simp, by simp, hheld.1, rfl, hheld.2.1, fun h => ⟨e.c, hheld.2.2, hsame h⟩⟩
  · left
    simp
end
end Go.Proofs.YtgljdkjepdknnaaGreatDoor

/- Predicates, modes and claims as data. -/
namespace Go.Proofs.YtgljdkjepdknnaaGreatDoor
set_option linter.unusedSimpArgs false
/-- a predicate -/
inductive PredT where
  | mk (op col : Int) (v w : Val) (l : List PredT)
def PredT.op : PredT → Int | .mk a _ _ _ _ => a
def PredT.col : PredT → Int | .mk _ a _ _ _ => a
def PredT.v : PredT → Val | .mk _ _ a _ _ => a
def PredT.w : PredT → Val | .mk _ _ _ a _ => a
def PredT.l : PredT → List PredT | .mk _ _ _ _ a => a
theorem PredT.ind {P : PredT → Prop} (h : ∀ op col v w l, (∀ q ∈ l, P q) → P (.mk op col v w l)) : ∀ p, P p
  | .mk op col v w l => h op col v w l (fun q _hq => PredT.ind h q)
termination_by p => SizeOf.sizeOf p
decreasing_by
  have := List.sizeOf_lt_of_mem _hq
  simp only [PredT.mk.sizeOf_spec]
  omega
/-- what holds of a row, of a part about a column -/
def leafT (op col : Int) (v w : Val) (r : List Val) : Bool :=
  if col < 0 ∨ (r.length : Int) ≤ col then false else
  let x := r.getD col.toNat default
  let c := valCmp x v
  if op = 3 then decide (c = 0) else if op = 4 then !decide (c = 0) else if op = 5 then decide (c < 0) else if op = 6 then decide (c ≤ 0) else if op = 7 then decide (0 < c) else if op = 8 then decide (0 ≤ c) else decide (0 ≤ c) && decide (valCmp x w ≤ 0)
mutual
def PredT.holds : PredT → List Val → Bool
  | .mk op col v w l, r =>
    if op = 1 then true else if 3 ≤ op ∧ op ≤ 9 then leafT op col v w r else if op = 10 then !((PredT.holdsL l r).headD false) else if op = 11 then (PredT.holdsL l r).all id else if op = 12 then (PredT.holdsL l r).any id else false
def PredT.holdsL : List PredT → List Val → List Bool
  | [], _ => []
  | p :: l, r => p.holds r :: PredT.holdsL l r
end
theorem holdsL_map (r : List Val) : ∀ l : List PredT, PredT.holdsL l r = l.map (fun p => p.holds r)
  | [] => rfl
  | p :: l => by unfold PredT.holdsL; rw [holdsL_map r l]; rfl
theorem PredT.holds_eq (op col : Int) (v w : Val) (l : List PredT) (r : List Val) : (PredT.mk op col v w l).holds r =
    if op = 1 then true else if 3 ≤ op ∧ op ≤ 9 then leafT op col v w r else if op = 10 then !((l.map (fun p => p.holds r)).headD false) else if op = 11 then l.all (fun p => p.holds r) else if op = 12 then l.any (fun p => p.holds r) else false := by
  conv => lhs; unfold PredT.holds
  simp only [holdsL_map, List.all_map, List.any_map]
  rfl
open Classical in
noncomputable def predEq (p q : PredT) : Bool := decide (p = q)
theorem predEq_iff {p q : PredT} : predEq p q = true ↔ p = q := by unfold predEq; simp
theorem predEq_self (p : PredT) : predEq p p = true := predEq_iff.2 rfl
noncomputable def predEqL (l m : List PredT) : Bool := decide (l.length = m.length) && (l.zip m).all (fun x => predEq x.1 x.2)
theorem predEqL_iff : ∀ {l m : List PredT}, predEqL l m = true ↔ l = m
  | [], [] => by simp [predEqL]
  | [], _ :: _ => by simp [predEqL]
  | _ :: _, [] => by simp [predEqL]
  | p :: l, q :: m => by
    have := predEqL_iff (l := l) (m := m)
    unfold predEqL at this ⊢
    simp only [List.length_cons, List.zip_cons_cons, List.all_cons, Bool.and_eq_true, decide_eq_true_eq, predEq_iff, List.cons.injEq, Nat.add_right_cancel_iff] at this ⊢
    rw [← this]
    constructor
    · rintro ⟨a, b, c⟩; exact ⟨b, a, c⟩
    · rintro ⟨a, b, c⟩; exact ⟨b, a, c⟩
theorem predEq_mk (a b : Int) (v w : Val) (l : List PredT) (a' b' : Int) (v' w' : Val) (l' : List PredT) : predEq (.mk a b v w l) (.mk a' b' v' w' l') = (decide (a = a') && decide (b = b') && decide (v = v') && decide (w = w') && predEqL l l') := by
  rw [Bool.eq_iff_iff]
  simp only [predEq_iff, Bool.and_eq_true, decide_eq_true_eq, predEqL_iff, PredT.mk.injEq]
  constructor
  · rintro ⟨a, b, c, d, e⟩; exact ⟨⟨⟨⟨a, b⟩, c⟩, d⟩, e⟩
  · rintro ⟨⟨⟨⟨a, b⟩, c⟩, d⟩, e⟩; exact ⟨a, b, c, d, e⟩

/-! modes -/
def modeR (m : Int) : Bool := decide (0 ≤ m) && decide (m ≤ 6)
/-- those against a mode, a bit each -/
def agT : List Nat := [0, 64, 120, 84, 124, 116, 126]
def agM (m : Int) : Nat := agT.getD m.toNat 0
def fitsM (a b : Int) : Bool := modeR a && modeR b && ((agM a >>> b.toNat) &&& 1 == 0)
def coversM (a b : Int) : Bool := modeR a && modeR b && (List.range 7).all (fun i => !(fitsM a i) || fitsM b i)
def joinS (a b : Int) (best : Int) (m : Nat) : Int := if coversM m a && coversM m b && coversM best m then (m : Int) else best
def joinM (a b : Int) : Int := if modeR a && modeR b then (List.range 7).foldl (joinS a b) 6 else 0
theorem modeR_cases {m : Int} (h : modeR m = true) : m = 0 ∨ m = 1 ∨ m = 2 ∨ m = 3 ∨ m = 4 ∨ m = 5 ∨ m = 6 := by
  unfold modeR at h
  simp only [Bool.and_eq_true, decide_eq_true_eq] at h
  omega
theorem fitsM_sym (a b : Int) : fitsM a b = fitsM b a := by
  by_cases ha : modeR a = true
  · by_cases hb : modeR b = true
    · rcases modeR_cases ha with rfl | rfl | rfl | rfl | rfl | rfl | rfl <;> rcases modeR_cases hb with rfl | rfl | rfl | rfl | rfl | rfl | rfl <;> decide
    · unfold fitsM; simp [hb]
  · unfold fitsM; simp [ha]
/-- who joins fits with less -/
theorem fits_join {a b x : Int} (ha : modeR a = true) (hb : modeR b = true) (h : fitsM a x = false) : fitsM (joinM a b) x = false := by
  by_cases hx : modeR x = true
  · revert h
    rcases modeR_cases ha with rfl | rfl | rfl | rfl | rfl | rfl | rfl <;> rcases modeR_cases hb with rfl | rfl | rfl | rfl | rfl | rfl | rfl <;> rcases modeR_cases hx with rfl | rfl | rfl | rfl | rfl | rfl | rfl <;> decide
  · unfold fitsM; simp [hx]

/-! claims -/
structure Clm where
  kind : Int
  table : Int
  mode : Int
  key : Val
  imgs : List (List Val)
  pred : PredT
noncomputable def clmSame (a b : Clm) : Bool := decide (a.kind = b.kind) && decide (a.table = b.table) && (if a.kind = 1 then true else if a.kind = 2 then decide (a.key = b.key) else if a.kind = 3 then predEq a.pred b.pred else false)
def clmMeets (p w : Clm) : Bool := decide (w.mode = 6) && w.imgs.any (fun r => decide (0 < r.length) && p.pred.holds r)
def clmConf (a b : Clm) : Bool := decide (a.table = b.table) &&
  (if a.kind = 1 ∧ b.kind = 1 then !fitsM a.mode b.mode else if a.kind = 2 ∧ b.kind = 2 then decide (a.key = b.key) && !fitsM a.mode b.mode else if a.kind = 3 ∧ b.kind = 2 then clmMeets a b else if a.kind = 2 ∧ b.kind = 3 then clmMeets b a else false)
def imgIn (l : List (List Val)) (r : List Val) : Bool := l.any (fun x => decide (x = r))
noncomputable def clmCov (a b : Clm) : Bool := clmSame a b && coversM a.mode b.mode && b.imgs.all (fun r => imgIn a.imgs r)
def imgJoin (l m : List (List Val)) : List (List Val) := m.foldl (fun o r => if imgIn o r then o else o ++ [r]) l
noncomputable def clmJoin (a b : Clm) : Clm := if clmSame a b then { a with mode := joinM a.mode b.mode, imgs := imgJoin a.imgs b.imgs } else a
theorem clmConf_sym (a b : Clm) : clmConf a b = clmConf b a := by
  unfold clmConf
  by_cases ht : a.table = b.table
  · rw [fitsM_sym b.mode a.mode]
    have hk : decide (a.key = b.key) = decide (b.key = a.key) := by rw [Bool.eq_iff_iff]; simp [eq_comm]
    rw [hk]
    simp only [ht, decide_true, Bool.true_and]
    by_cases h1 : a.kind = 1 <;> by_cases h2 : b.kind = 1 <;> by_cases h3 : a.kind = 2 <;> by_cases h4 : b.kind = 2 <;> by_cases h5 : a.kind = 3 <;> by_cases h6 : b.kind = 3 <;> simp_all
  · simp [ht, Ne.symm ht]
theorem clmSame_iff {a b : Clm} : clmSame a b = true ↔ a.kind = b.kind ∧ a.table = b.table ∧ (a.kind = 1 ∨ (a.kind = 2 ∧ a.key = b.key) ∨ (a.kind = 3 ∧ a.pred = b.pred)) := by
  unfold clmSame
  rw [Bool.and_eq_true, Bool.and_eq_true, decide_eq_true_eq, decide_eq_true_eq, and_assoc]
  refine and_congr_right (fun _ => and_congr_right (fun _ => ?_))
  by_cases h1 : a.kind = 1
  · simp [h1]
  · by_cases h2 : a.kind = 2
    · simp [h2]
    · by_cases h3 : a.kind = 3
      · simp [h3, predEq_iff]
      · simp [h1, h2, h3]
theorem clmSame_sym (a b : Clm) : clmSame a b = clmSame b a := by
  rw [Bool.eq_iff_iff, clmSame_iff, clmSame_iff]
  constructor
  · rintro ⟨h1, h2, h3⟩
    exact ⟨h1.symm, h2.symm, by rw [h1] at h3; rcases h3 with h | ⟨h, h'⟩ | ⟨h, h'⟩; exact .inl h; exact .inr (.inl ⟨h, h'.symm⟩); exact .inr (.inr ⟨h, h'.symm⟩)⟩
  · rintro ⟨h1, h2, h3⟩
    exact ⟨h1.symm, h2.symm, by rw [h1] at h3; rcases h3 with h | ⟨h, h'⟩ | ⟨h, h'⟩; exact .inl h; exact .inr (.inl ⟨h, h'.symm⟩); exact .inr (.inr ⟨h, h'.symm⟩)⟩
theorem clmSame_trans {a b c : Clm} (h : clmSame a b = true) : clmSame c a = clmSame c b := by
  obtain ⟨h1, h2, h3⟩ := clmSame_iff.1 h
  rw [Bool.eq_iff_iff, clmSame_iff, clmSame_iff, ← h1, ← h2]
  refine and_congr_right (fun hk => and_congr_right (fun _ => ?_))
  rw [hk]
  rcases h3 with h | ⟨h, h'⟩ | ⟨h, h'⟩
  · simp [h]
  · simp [h, h']
  · simp [h, h']
theorem clmSame_join (h c y : Clm) (hs : clmSame h c = true) : clmSame y (clmJoin h c) = clmSame y c := by
  rw [← clmSame_trans hs]
  unfold clmJoin
  rw [if_pos hs]
  rfl
theorem imgJoin_mem {l : List (List Val)} : ∀ {m : List (List Val)} {r : List Val}, r ∈ l → r ∈ imgJoin l m := by
  intro m
  unfold imgJoin
  induction m generalizing l with
  | nil => intro r h; exact h
  | cons x m ih =>
    intro r h
    show r ∈ m.foldl _ _
    refine ih ?_
    dsimp only
    split
    · exact h
    · exact List.mem_append.2 (.inl h)
/-- those whose joins are in conflict with what one of both is -/
def clmPlain (c : Clm) : Bool := if c.kind = 1 then modeR c.mode && c.imgs.isEmpty else if c.kind = 2 then ((decide (c.mode = 3) || decide (c.mode = 5)) && c.imgs.isEmpty || decide (c.mode = 6)) else if c.kind = 3 then decide (c.mode = 3) && c.imgs.isEmpty else false
theorem joinM_x {a b : Int} (ha : a = 6) (hb : modeR b = true) : joinM a b = 6 := by
  subst ha
  rcases modeR_cases hb with rfl | rfl | rfl | rfl | rfl | rfl | rfl <;> decide
theorem plain_mode {c : Clm} (h : clmPlain c = true) : modeR c.mode = true := by
  unfold clmPlain at h
  split at h
  · simp at h; exact h.1
  · split at h
    · simp only [Bool.or_eq_true, Bool.and_eq_true, decide_eq_true_eq] at h
      rcases h with ⟨h | h, _⟩ | h <;> rw [h] <;> decide
    · split at h
      · simp only [Bool.and_eq_true, decide_eq_true_eq] at h
        rw [h.1]; decide
      · cases h
theorem clm_keep (h c y : Clm) (hh : clmPlain h = true) (hc : clmPlain c = true) (hs : clmSame h c = true) (hy : clmConf h y = true) : clmConf (clmJoin h c) y = true := by
  have m1 := plain_mode hh
  have m2 := plain_mode hc
  unfold clmJoin
  rw [if_pos hs]
  unfold clmConf at hy ⊢
  rw [Bool.and_eq_true] at hy ⊢
  refine ⟨hy.1, ?_⟩
  have hy2 := hy.2
  dsimp only
  split
  · rename_i hk
    rw [if_pos hk] at hy2
    simp only [Bool.not_eq_true'] at hy2 ⊢
    exact fits_join m1 m2 hy2
  · rename_i hk
    rw [if_neg hk] at hy2
    split
    · rename_i hk
      rw [if_pos hk] at hy2
      simp only [Bool.and_eq_true, Bool.not_eq_true'] at hy2 ⊢
      exact ⟨hy2.1, fits_join m1 m2 hy2.2⟩
    · rename_i hk
      rw [if_neg hk] at hy2
      split
      · rename_i hk
        rw [if_pos hk] at hy2
        exact hy2
      · rename_i hk
        rw [if_neg hk] at hy2
        split
        · rename_i hk
          rw [if_pos hk] at hy2
          unfold clmMeets at hy2 ⊢
          rw [Bool.and_eq_true, decide_eq_true_eq] at hy2 ⊢
          refine ⟨joinM_x hy2.1 m2, ?_⟩
          obtain ⟨r, hr, h3⟩ := List.any_eq_true.1 hy2.2
          exact List.any_eq_true.2 ⟨r, imgJoin_mem hr, h3⟩
        · rename_i hk
          rw [if_neg hk] at hy2
          exact hy2
end Go.Proofs.YtgljdkjepdknnaaGreatDoor

/- A queue of one lock's modes: plain laws. -/
namespace Go.Proofs.YtgljdkjepdknnaaGreatDoor
set_option linter.unusedSimpArgs false
/-! one lock's modes -/
def RM : Rul Int := ⟨fun _ _ => true, fun a b => !fitsM a b, coversM, joinM⟩
theorem waitAt_no {C : Type} {l : List (Ent C)} {o : Int} (h : ∀ e ∈ l, e.o ≠ o) : waitAt l o = none := by
  unfold waitAt
  exact List.findIdx?_eq_none_iff.2 (fun e he => by unfold ofE; simpa using h e he)
/-- who asked for what nobody can share: the i-th holds it, those behind wait -/
def turnQ (i n : Nat) : Qm Int := ⟨if i < n then [⟨(i : Int), 6, false⟩] else [], (List.range' (i + 1) (n - (i + 1))).map (fun k : Nat => ⟨(k : Int), 6, false⟩)⟩
theorem turn_held {i n : Nat} {e : Ent Int} (h : e ∈ (turnQ i n).held) : e = ⟨(i : Int), 6, false⟩ := by
  unfold turnQ at h
  dsimp only at h
  split at h
  · simpa using h
  · cases h
theorem turn_wait {i n : Nat} {e : Ent Int} (h : e ∈ (turnQ i n).waits) : ∃ k : Nat, i < k ∧ k < n ∧ e = ⟨(k : Int), 6, false⟩ := by
  unfold turnQ at h
  obtain ⟨k, hk, rfl⟩ := List.mem_map.1 h
  rw [List.mem_range'_1] at hk
  exact ⟨k, by omega, by omega, rfl⟩
theorem x_conf : RM.conf 6 6 = true := by decide
theorem turn_stuck {i n : Nat} : firstFree RM (turnQ i n) = none := by
  refine stuck_iff.1 (fun j e he => free_false.2 ?_)
  obtain ⟨k, h1, h2, rfl⟩ := turn_wait (List.mem_of_getElem? he)
  refine ⟨⟨(i : Int), 6, false⟩, .inl ?_, ?_, x_conf⟩
  · unfold turnQ
    dsimp only
    rw [if_pos (by omega)]
    simp
  · show (i : Int) ≠ (k : Int)
    omega
theorem turn_ask (k : Nat) : askQ RM (turnQ 0 k) k 6 true = (turnQ 0 (k + 1), decide (k = 0)) := by
  have hw : waitAt (turnQ 0 k).waits k = none := waitAt_no (fun e he => by
    obtain ⟨j, h1, h2, rfl⟩ := turn_wait he
    show (j : Int) ≠ k
    omega)
  by_cases hk : k = 0
  · subst hk; rfl
  · have ho : ownAt RM (turnQ 0 k).held k 6 = none := by
      unfold ownAt
      refine List.findIdx?_eq_none_iff.2 (fun e he => ?_)
      obtain rfl := turn_held he
      unfold sameE
      simp
      omega
    have hf : freeE RM (turnQ 0 k) k 6 ((turnQ 0 k).waits.take (turnQ 0 k).waits.length) = false := by
      refine free_false.2 ⟨⟨((0 : Nat) : Int), 6, false⟩, .inl ?_, ?_, x_conf⟩
      · unfold turnQ; dsimp only; rw [if_pos (by omega)]; simp
      · show ((0 : Nat) : Int) ≠ k; omega
    unfold askQ askFor
    rw [hw, ho]
    simp only [Option.isSome_none, Bool.false_eq_true, if_false, hf, if_true]
    rw [List.take_length, List.drop_length, List.append_nil]
    have : decide (k = 0) = false := by simp [hk]
    rw [this]
    congr 1
    unfold turnQ
    congr 1
    · dsimp only
      rw [if_pos (by omega), if_pos (by omega)]
    · dsimp only
      rw [show k + 1 - (0 + 1) = (k - (0 + 1)) + 1 by omega, List.range'_concat, List.map_append]
      simp
      omega
theorem turn_other {i n : Nat} {o : Int} (h : o ≠ i) : dropQ RM (turnQ i n) (ofE o) = (turnQ i n, []) := by
  unfold dropQ
  have : (turnQ i n).held.filter (fun e => !ofE o e) = (turnQ i n).held := List.filter_eq_self.2 (fun e he => by
    obtain rfl := turn_held he
    unfold ofE
    simp
    exact Ne.symm h)
  rw [this]
  exact moved_none turn_stuck
theorem turn_clear {i n : Nat} (h : i + 1 < n) : dropQ RM (turnQ i n) (ofE i) = (turnQ (i + 1) n, [((i + 1 : Nat) : Int)]) := by
  unfold dropQ
  have h1 : (turnQ i n).held.filter (fun e => !ofE i e) = [] := List.filter_eq_nil_iff.2 (fun e he => by
    obtain rfl := turn_held he
    unfold ofE
    simp)
  rw [h1]
  have h2 : (turnQ i n).waits = ⟨((i + 1 : Nat) : Int), 6, false⟩ :: (turnQ (i + 1) n).waits := by
    unfold turnQ
    dsimp only
    rw [show n - (i + 1) = (n - (i + 1 + 1)) + 1 by omega, List.range'_succ]
    rfl
  rw [h2]
  have hf : firstFree RM ⟨[], ⟨((i + 1 : Nat) : Int), 6, false⟩ :: (turnQ (i + 1) n).waits⟩ = some 0 := by
    unfold firstFree
    rw [List.length_cons, List.range_succ_eq_map]
    rfl
  rw [moved_some (i := 0) hf rfl]
  have h3 : giveQ RM ⟨[], (⟨((i + 1 : Nat) : Int), 6, false⟩ :: (turnQ (i + 1) n).waits).eraseIdx 0⟩ ⟨((i + 1 : Nat) : Int), 6, false⟩ = turnQ (i + 1) n := by
    show Qm.mk [⟨((i + 1 : Nat) : Int), 6, false⟩] _ = _
    unfold turnQ
    dsimp only
    rw [if_pos h]
    rfl
  rw [h3, moved_none turn_stuck]
theorem turn_last {n : Nat} (h : 0 < n) : dropQ RM (turnQ (n - 1) n) (ofE ((n - 1 : Nat) : Int)) = (⟨[], []⟩, []) := by
  unfold dropQ
  have h1 : (turnQ (n - 1) n).held.filter (fun e => !ofE ((n - 1 : Nat) : Int) e) = [] := List.filter_eq_nil_iff.2 (fun e he => by
    obtain rfl := turn_held he
    unfold ofE
    simp)
  rw [h1]
  have h2 : (turnQ (n - 1) n).waits = [] := by
    unfold turnQ
    dsimp only
    rw [show n - (n - 1 + 1) = 0 by omega]
    rfl
  rw [h2]
  rfl
theorem turn_holds {i n : Nat} (h : i < n) : holdsQ (turnQ i n) i = [6] := by
  unfold holdsQ turnQ
  dsimp only
  rw [if_pos h]
  simp [ofE]
theorem turn_blocks {i n : Nat} (h : i + 1 < n) : blockL RM (turnQ i n) ((i + 1 : Nat) : Int) ≠ [] := by
  refine (block_stuck (stuck_iff.2 turn_stuck) _).2 ?_
  cases hw : waitAt (turnQ i n).waits ((i + 1 : Nat) : Int) with
  | some k => rfl
  | none =>
    exfalso
    refine waitAt_none (l := (turnQ i n).waits) (o := ((i + 1 : Nat) : Int)) (by rw [hw]; rfl) ⟨((i + 1 : Nat) : Int), 6, false⟩ ?_ rfl
    unfold turnQ
    refine List.mem_map.2 ⟨i + 1, ?_, rfl⟩
    rw [List.mem_range'_1]
    omega

/-! many who ask for modes -/
structure ModesOk (q : Qm Int) : Prop where
  once : q.held.Pairwise (fun a b => a.o ≠ b.o)
  right : AllE (fun _ m => 1 ≤ m ∧ m ≤ 6) q
  apart : Apart RM q.held
theorem RM_sym (a b : Int) : RM.conf a b = RM.conf b a := by show (!fitsM a b) = !fitsM b a; rw [fitsM_sym]
theorem set_once {l : List (Ent Int)} {k : Nat} {x e : Ent Int} (h : l.Pairwise (fun a b => a.o ≠ b.o)) (hx : l[k]? = some x) (ho : x.o = e.o) : (l.set k e).Pairwise (fun a b => a.o ≠ b.o) := by
  have h1 : (l.map (fun e => e.o)).Pairwise (· ≠ ·) := List.pairwise_map.2 h
  have h2 : (l.set k e).map (fun e => e.o) = l.map (fun e => e.o) := by
    rw [List.map_set]
    obtain ⟨hlt, rfl⟩ := List.getElem?_eq_some_iff.1 hx
    rw [← ho]
    have : l[k].o = (l.map (fun e => e.o))[k]'(by simpa using hlt) := by simp
    rw [this, List.set_getElem_self]
  exact List.pairwise_map.1 (by rw [h2]; exact h1)
theorem give_once {l : List (Ent Int)} {e : Ent Int} (h : l.Pairwise (fun a b => a.o ≠ b.o)) : (giveL RM l e).Pairwise (fun a b => a.o ≠ b.o) := by
  unfold giveL
  split
  · rename_i k hk
    obtain ⟨x, hx, hxo, _⟩ := own_at hk
    exact set_once h hx hxo
  · rename_i hk
    refine List.pairwise_append.2 ⟨h, List.pairwise_singleton _ _, fun a ha b hb => ?_⟩
    obtain rfl := List.mem_singleton.1 hb
    have h0 : l.findIdx? (sameE RM e.o e.c) = none := hk
    have := List.findIdx?_eq_none_iff.1 h0 a ha
    unfold sameE at this
    show a.o ≠ e.o
    intro he
    simp [he, RM] at this
theorem joinM_right {a b : Int} (ha : 1 ≤ a ∧ a ≤ 6) (hb : 1 ≤ b ∧ b ≤ 6) : 1 ≤ joinM a b ∧ joinM a b ≤ 6 ∧ coversM (joinM a b) b = true := by
  have h1 : a = 1 ∨ a = 2 ∨ a = 3 ∨ a = 4 ∨ a = 5 ∨ a = 6 := by omega
  have h2 : b = 1 ∨ b = 2 ∨ b = 3 ∨ b = 4 ∨ b = 5 ∨ b = 6 := by omega
  rcases h1 with rfl | rfl | rfl | rfl | rfl | rfl <;> rcases h2 with rfl | rfl | rfl | rfl | rfl | rfl <;> decide
theorem coversM_self {a : Int} (ha : 1 ≤ a ∧ a ≤ 6) : coversM a a = true := by
  have h1 : a = 1 ∨ a = 2 ∨ a = 3 ∨ a = 4 ∨ a = 5 ∨ a = 6 := by omega
  rcases h1 with rfl | rfl | rfl | rfl | rfl | rfl <;> decide
theorem ask_modes {q : Qm Int} (h : ModesOk q) (o m : Int) (hm : 1 ≤ m ∧ m ≤ 6) : ModesOk (askQ RM q o m true).1 := by
  refine ⟨?_, ?_, ask_apart RM_sym h.apart o m true⟩
  · unfold askQ
    split
    · exact h.once
    · split
      · exact h.once
      · split
        · exact give_once h.once
        · exact h.once
  · exact ask_all (P := fun _ m => 1 ≤ m ∧ m ≤ 6) h.right o m true hm (fun x hx => by have := joinM_right hx hm; exact ⟨this.1, this.2.1⟩)
theorem drop_modes {q : Qm Int} (h : ModesOk q) (g : Ent Int → Bool) : ModesOk (dropQ RM q g).1 := by
  refine ⟨?_, drop_all h.right g, drop_apart RM_sym h.apart g⟩
  exact moveQ_ind (P := fun q => q.held.Pairwise (fun a b => a.o ≠ b.o)) (fun _ _ _ h _ _ => give_once h) _ ⟨_, _⟩ (h.once.filter _)
theorem modes_one {q : Qm Int} (h : ModesOk q) (o : Int) : (holdsQ q o).length ≤ 1 := by
  unfold holdsQ
  rw [List.length_map, wait_count h.once o]
  split <;> omega
theorem modes_fit {q : Qm Int} (h : ModesOk q) {a b x y : Int} (hab : a ≠ b) (hx : x ∈ holdsQ q a) (hy : y ∈ holdsQ q b) : fitsM x y = true := by
  obtain ⟨e, he, rfl, rfl⟩ := holds_mem hx
  obtain ⟨f, hf, rfl, rfl⟩ := holds_mem hy
  have := h.apart e he f hf hab
  simpa [RM] using this
theorem modes_got {q : Qm Int} (h : ModesOk q) (o m : Int) (hm : 1 ≤ m ∧ m ≤ 6) (hg : (askQ RM q o m true).2 = true) : ∃ x, holdsQ (askQ RM q o m true).1 o = [x] ∧ coversM x m = true := by
  have h2 := modes_one (ask_modes h o m hm) o
  have key : ∃ x ∈ holdsQ (askQ RM q o m true).1 o, coversM x m = true := by
    unfold askQ at hg ⊢
    split at hg
    · cases hg
    · rename_i hw
      rw [if_neg hw]
      cases ha : askFor RM q o m with
      | none =>
        dsimp only
        unfold askFor at ha
        split at ha
        · cases ha
        · rename_i k hk
          obtain ⟨x, hx, hxo, _, _⟩ := own_at hk
          rw [hx] at ha
          dsimp only at ha
          split at ha
          · rename_i hc
            exact ⟨x.c, List.mem_map.2 ⟨x, List.mem_filter.2 ⟨List.mem_of_getElem? hx, by unfold ofE; simp [hxo]⟩, rfl⟩, hc⟩
          · cases ha
      | some p =>
        obtain ⟨e, i⟩ := p
        obtain ⟨ho, _, hc⟩ := askFor_o ha
        rw [ha] at hg
        dsimp only at hg ⊢
        split at hg
        · rename_i hf
          rw [if_pos hf]
          have hcov : coversM e.c m = true := by
            rcases hc with ⟨_, _, hc, _⟩ | ⟨_, _, k, x, hk, hx, _, hc⟩
            · rw [hc]; exact coversM_self hm
            · rw [hc]; exact (joinM_right (h.right.1 x (List.mem_of_getElem? hx)) hm).2.2
          refine ⟨e.c, ?_, hcov⟩
          unfold holdsQ giveQ giveL
          dsimp only
          refine List.mem_map.2 ⟨e.less, List.mem_filter.2 ⟨?_, by unfold ofE Ent.less; simp [ho]⟩, rfl⟩
          split
          · rename_i k hk
            obtain ⟨x, hx, _, _, hlt⟩ := own_at hk
            exact List.mem_iff_getElem.2 ⟨k, by simpa using hlt, by simp⟩
          · simp
        · simp at hg
  obtain ⟨x, hx, hc⟩ := key
  generalize holdsQ (askQ RM q o m true).1 o = l at *
  match l, hx, h2 with
  | [y], hx, _ => exact ⟨y, rfl, by rw [← List.mem_singleton.1 hx]; exact hc⟩
end Go.Proofs.YtgljdkjepdknnaaGreatDoor

/- Function values that are asked of elements; places. (printed by genq.py) -/
namespace Go.Proofs.YtgljdkjepdknnaaGreatDoor
open Go.ChangeShapes Go.WideShapes Go.ChangeAt Go.RowKit
set_option maxRecDepth 100000
set_option linter.unusedSimpArgs false


/-- the function of a value says p of these cells, in every world in which what was there stands -/
def PredF (F : Nat) (caps : Array Value) (w : World) (cs : List Value) (p : Bool) : Prop := Enters Tryz.prog F ∧ ∀ W, Kept (fun _ => False) w W → Calls Tryz.prog F (#[.agg cs.toArray] ++ caps) W fun e W' => e = .returned (.bool p) ∧ Kept (fun _ => False) W W'
theorem PredF.kept {F : Nat} {caps : Array Value} {w w' : World} {cs : List Value} {p : Bool} (h : PredF F caps w cs p) (k : Kept (fun _ => False) w w') : PredF F caps w' cs p := ⟨h.1, fun W hW => h.2 W (k.trans hW (fun _ h => h.elim))⟩
/-- a place, or below 0 -/
def idxI {α : Type} (p : α → Bool) (xs : List α) : Int := match xs.findIdx? p with
  | some k => (k : Int)
  | none => -1
theorem idxI_at {α : Type} {p : α → Bool} {xs : List α} {j : Nat} {x : α} (h : ∀ y ∈ xs.take j, p y = false) (hx : xs[j]? = some x) (hp : p x = true) : idxI p xs = j := by
  unfold idxI
  have hlt := (List.getElem?_eq_some_iff.1 hx).1
  have : xs.findIdx? p = some j := by
    refine List.findIdx?_eq_some_iff_getElem.2 ⟨hlt, ?_, fun i hi => ?_⟩
    · rw [List.getElem?_eq_getElem hlt] at hx
      rw [Option.some.inj hx]; exact hp
    · have := h (xs[i]'(by omega)) (List.mem_take_iff_getElem.2 ⟨i, by omega, rfl⟩)
      simp [this]
  rw [this]
theorem idxI_none {α : Type} {p : α → Bool} {xs : List α} (h : ∀ y ∈ xs, p y = false) : idxI p xs = -1 := by
  unfold idxI
  rw [List.findIdx?_eq_none_iff.2 h]
theorem idxI_lt {α : Type} (p : α → Bool) (xs : List α) : -1 ≤ idxI p xs ∧ idxI p xs < (xs.length : Int) := by
  unfold idxI
  cases h : xs.findIdx? p with
  | none => dsimp only; omega
  | some k =>
    obtain ⟨hlt, _⟩ := List.findIdx?_eq_some_iff_getElem.1 h
    dsimp only
    omega
theorem idxI_any {α : Type} (p : α → Bool) (xs : List α) : decide (0 ≤ idxI p xs) = xs.any p := by
  unfold idxI
  cases h : xs.findIdx? p with
  | none =>
    have := List.findIdx?_eq_none_iff.1 h
    simp only
    symm
    rw [show decide ((0 : Int) ≤ -1) = false by decide]
    exact List.any_eq_false.2 (fun x hx => by simp [this x hx])
  | some k =>
    obtain ⟨hlt, hk, _⟩ := List.findIdx?_eq_some_iff_getElem.1 h
    simp only
    rw [show decide ((0 : Int) ≤ (k : Int)) = true by simp]
    symm
    exact List.any_eq_true.2 ⟨_, List.getElem_mem hlt, hk⟩
theorem mem_take_succ {α : Type} {L : List α} {i : Nat} {p : α} {P : α → Prop} (h : ∀ x ∈ L.take i, P x) (hp : L[i]? = some p) (hP : P p) : ∀ x ∈ L.take (i + 1), P x := by
  intro x hx
  rw [List.take_add_one, hp] at hx
  rcases List.mem_append.1 hx with hx | hx
  · exact h x hx
  · simp at hx; subst hx; exact hP
/-- an element of a row of elements -/
theorem elem_range {α : Type} {f : α → List Value} {z : Nat} (hf : ∀ a, (f a).length = z) {w : World} {ao : Option Addr} {N cap j : Nat} {xs : List α} {x : α} (h : Rd w z (.slice ao N cap) N (xs.flatMap f)) (hx : xs[j]? = some x) (hl : xs.length = N) : ∃ g o, ao = some ⟨g, o, none⟩ ∧ w.rangeAt g (o + j * z) (f x) := by
  have hlt := (List.getElem?_eq_some_iff.1 hx).1
  rcases h.2.2 with ⟨_, _, hv, _, _, _, hc⟩
  cases hv
  rcases hc with h0 | ⟨g, o, hg, hcell⟩
  · omega
  · refine ⟨g, o, hg, fun i u hu => ?_⟩
    rw [Nat.add_assoc]
    exact hcell _ _ (flat_get hf xs j x hx i u hu)
section
variable {P : Program} {w : World} {o : Oper} {a : Act}
/-- a struct is loaded whole, where it is known what that yields: among plain operations; in a region that draws -/
theorem wpList_ld {ops : Array Oper} {rest : List Oper} {Q : Exit → Act → World → Prop} (hgd : o.guard = none) (ty : TypeId) (x : Operand) (ho : o.op = .load ty x) (b i : Nat) (hx : a.eval x = .pointer (some ⟨b, i, none⟩)) (cs : List Value)
    (hl : (loadVar ty ⟨b, i, none⟩).run P w = .ok (.agg cs.toArray) w) (h : wpList P ops Q rest (a.put o.dst (.agg cs.toArray)) w) : wpList P ops Q (o :: rest) a w :=
  wpList_plain hgd fun _ hK => by
    unfold Oper.wp execOp
    simp only [ho, hx, Instr.loadAt, Instr.sureAddr, Sem.run_bind, Sem.run_pure, Result.andThen_ok, hl]
    exact hK _ _ h
theorem still_ld {K : Act → Prop} (ty : TypeId) (x : Operand) (ho : o.op = .load ty x) (b i : Nat) (hx : a.eval x = .pointer (some ⟨b, i, none⟩)) (cs : List Value)
    (hl : (loadVar ty ⟨b, i, none⟩).run P w = .ok (.agg cs.toArray) w) (h : K (a.put o.dst (.agg cs.toArray))) : o.still P a w K := by
  unfold Oper.still execOp
  simp only [ho, hx, Instr.loadAt, Instr.sureAddr, Sem.run_bind, Sem.run_pure, Result.andThen_ok, hl]
  rw [Oper.stillUpon_value]
  exact h
end
theorem blk_range {w : World} {b : Nat} {cs : List Value} {t : TypeId} {fr : Nat × Nat} (h : w.heap[b]? = some (.cells cs.toArray t fr)) : w.rangeAt b 0 cs := fun j v hv => by
  rw [cell_of_row w b (0 + j) cs.toArray t fr h, Nat.zero_add]
  simpa using hv

theorem setRow_alloc (w : World) (z cs : Array Value) (t : TypeId) : (w.alloc (.cells z t)).setRow w.heap.size cs = w.alloc (.cells cs t) := by
  unfold World.setRow World.alloc
  congr 1
  apply Array.ext_getElem?
  intro k
  simp only [Array.getElem?_modify, Array.getElem?_push]
  by_cases hk : k = w.heap.size
  · subst hk; simp
  · simp [hk, Ne.symm hk]
section
variable {P : Program} {B w : World} {D : PH} {l : List HP} {ops : Array Oper} {rest : List Oper} {o : Oper} {a : Act} {Q : Exit → Act → World → Prop}
/-- what is stored whole into a variable that was just made -/
theorem wpList_store_new (hgd : o.guard = none) (ty : TypeId) (x y : Operand) (ho : o.op = .store ty x y)
    (cells : List Value) (z : Array Value) (t : TypeId) (hx : a.eval x = .pointer (some ⟨w.heap.size, 0, none⟩)) (hy : a.eval y = .agg cells.toArray) (hi : (P.info? ty).map (·.size) = some cells.length)
    (hold : z.size = cells.length) (h1 : ∀ u ∈ cells, u.oneCell' = true)
    (h : wpList P ops Q rest (a.put o.dst undef) (w.alloc (.cells cells.toArray t))) : wpList P ops Q (o :: rest) a (w.alloc (.cells z t)) :=
  wpList_store_row hgd ty x y ho w.heap.size cells.toArray hx hy t z (heap_alloc_self w _) (by simpa using hi) (by simpa using hold) (by simpa [List.all_eq_true] using h1) (by rw [setRow_alloc]; exact h)
/-- what is stored whole into the middle of a row of one's own -/
theorem wpList_store_at (hgd : o.guard = none) (ty : TypeId) (x y : Operand) (ho : o.op = .store ty x y) (e : TypeId) (g off : Nat) (hx : a.eval x = .pointer (some ⟨g, off, none⟩)) (cs : List Value) (hy : a.eval y = .agg cs.toArray) (cur : List Value) (hs : Sat B D w (blk g cur.toArray e :: l))
    (hi : (P.info? ty).map (·.size) = some cs.length) (hfit : off + cs.length ≤ cur.length) (h1 : ∀ u ∈ cs, u.oneCell' = true)
    (h : ∀ w', Sat B D w' (blk g (lay cur off cs).toArray e :: l) → wpList P ops Q rest (a.put o.dst undef) w') : wpList P ops Q (o :: rest) a w :=
  wpList_plain hgd fun _ hK => by
    have hst := run_storeCells_at P g off e cs 0 cur.toArray w hs.heap_blk (by simpa using hfit) h1
    simp only [Nat.add_zero] at hst
    have hsz : ∃ i, P.info? ty = some i ∧ i.size = cs.length := by
      cases hq : P.info? ty with
      | none => rw [hq] at hi; cases hi
      | some i => exact ⟨i, rfl, by rw [hq] at hi; simpa using hi⟩
    obtain ⟨i, hq, hsi⟩ := hsz
    have hrun : (storeVar ty ⟨g, off, none⟩ (.agg cs.toArray)).run P w = .ok () (w.setRow g (lay cur off cs).toArray) := by
      simp [storeVar, sizeOf, typeInfo, hq, hsi, Value.cells, hst, lay]
    unfold Oper.wp execOp
    simp only [ho, hx, hy, Instr.storeAt, Instr.sureAddr, Sem.run_bind, Sem.run_pure, Result.andThen_ok, hrun]
    exact hK _ _ (h _ (hs.setRow _))
theorem lay_flat {α : Type} {f : α → List Value} {z : Nat} (hf : ∀ a, (f a).length = z) {xs : List α} {i : Nat} {x : α} (hi : i < xs.length) : ((xs.set i x).flatMap f) = lay (xs.flatMap f) (i * z) (f x) := by
  unfold lay
  rw [hf, flat_take hf, show i * z + z = (i + 1) * z by rw [Nat.succ_mul], flat_drop hf, List.set_eq_take_append_cons_drop, if_pos hi]
  simp
theorem lay_take {cur cs : List Value} {off n : Nat} (h : off + cs.length ≤ n) (hn : n ≤ cur.length) : (lay cur off cs).take n = lay (cur.take n) off cs := by
  unfold lay
  rw [List.append_assoc, List.take_append, List.take_append, List.length_take, List.take_take]
  rw [show min off cur.length = off by omega]
  rw [show min n off = off by omega, List.take_of_length_le (l := cs) (by omega)]
  rw [List.take_take, show min off n = off by omega, List.append_assoc]
  congr 2
  rw [List.drop_take]
  congr 1
  omega
/-- an element of a slice of one's own is stored -/
theorem wpList_store_elem {α : Type} {f : α → List Value} {z : Nat} (hf : ∀ a, (f a).length = z) (hone : ∀ a, ∀ u ∈ f a, u.oneCell' = true) (hgd : o.guard = none) (ty : TypeId) (x y : Operand) (ho : o.op = .store ty x y) (e : TypeId) (g off i n cap : Nat) (hx : a.eval x = .pointer (some ⟨g, off, none⟩)) (hoff : off = i * z) (b : α) (hy : a.eval y = .agg (f b).toArray) (xs : List α)
    (hs : Sat B D w (ownS e z (.slice (some ⟨g, 0, none⟩) n cap) n (xs.flatMap f) :: l)) (hi : (P.info? ty).map (·.size) = some z) (hin : i < n) (hn : xs.length = n)
    (h : ∀ w', Sat B D w' (ownS e z (.slice (some ⟨g, 0, none⟩) n cap) n ((xs.set i b).flatMap f) :: l) → wpList P ops Q rest (a.put o.dst undef) w') : wpList P ops Q (o :: rest) a w := by
  subst hoff
  obtain ⟨cur, hb, h1, h2, h3, h4, h5, h6⟩ := hs.own_row
  have hle : i * z + z ≤ n * z := by rw [← Nat.succ_mul]; exact Nat.mul_le_mul_right _ hin
  have hnc : n * z ≤ cap * z := Nat.mul_le_mul_right _ h1
  refine wpList_store_at hgd ty x y ho e g (i * z) hx (f b) hy cur hb (by rw [hf]; exact hi) (by rw [hf]; omega) (hone b) (fun w' hs' => h w' ?_)
  refine hs'.row_own h1 h2 (by rw [lay_len _ _ _ (by rw [hf]; omega)]; exact h3) ?_ (fun u hu => ?_)
  · rw [lay_take (by rw [hf]; omega) (by omega), h4, lay_flat hf (by omega)]
  · obtain ⟨a', _, hu⟩ := List.mem_flatMap.1 hu
    exact hone a' u hu
end

theorem take_set_succ {α : Type} {ys : List α} {i : Nat} {x : α} (h : i < ys.length) : (ys.set i x).take (i + 1) = ys.take i ++ [x] := by
  rw [List.set_eq_take_append_cons_drop, if_pos h, List.take_append, List.take_of_length_le (by rw [List.length_take]; omega), List.length_take, Nat.min_eq_left (by omega), show i + 1 - i = 1 by omega]
  rfl
theorem fold_set : ∀ (cs : List Value) (k : Nat) (A : Array Value), k + cs.length ≤ A.size → ((cs.zipIdx k).foldl (fun (A : Array Value) (x : Value × Nat) => A.setIfInBounds (0 + x.2) x.1) A).toList = lay A.toList k cs
  | [], k, A, _ => by unfold lay; simp
  | c :: cs, k, A, h => by
    simp only [List.length_cons] at h
    rw [List.zipIdx_cons, List.foldl_cons, fold_set cs (k + 1) _ (by simp; omega)]
    unfold lay
    simp only [Nat.zero_add, Array.toList_setIfInBounds, List.length_cons]
    rw [take_set_succ (by simp; omega), List.drop_set, if_pos (by omega), show k + 1 + cs.length = k + (cs.length + 1) by omega]
    simp
theorem run_build_one {P : Program} (w : World) (t e : TypeId) (i : TypeInfo) (z : Value) (cs : List Value) (ht : P.underlying t = some (.slice e)) (hi : P.info? e = some i) (hz : i.zero = some z) (hsize : i.size = cs.length) (hpos : 0 < cs.length) (hle : cs.length ≤ 1000) :
    (Instr.buildSlice t 1 #[(0, .agg cs.toArray)]).run P w = .ok (.slice (some ⟨w.heap.size, 0, none⟩) 1 1) (w.alloc (.cells cs.toArray e)) := by
  have hf : ∀ A : Array Value, A.size = cs.length → cs.zipIdx.foldl (fun (cs : Array Value) (x : Value × Nat) => cs.setIfInBounds x.2 x.1) A = cs.toArray := by
    intro A hA
    apply Array.toList_inj.1
    have := fold_set cs 0 A (by omega)
    simp only [Nat.zero_add] at this
    rw [this]
    unfold lay
    simp [hA]
  have hne : cs.length ≠ 0 := by omega
  have h24 : ¬ (16777216 < cs.length) := by omega
  simp [Instr.buildSlice, run_underlying ht, sizeOf, typeInfo, zeroValue, hi, hz, hsize, Instr.fill, Value.cells, newRow, hne, h24]
  congr 2
  exact hf _ (by simp)
theorem wpList_build_one {P : Program} {ops : Array Oper} {rest : List Oper} {o : Oper} {a : Act} {w : World} {Q : Exit → Act → World → Prop} (hgd : o.guard = none) (t : TypeId) (x : Operand) (ho : o.op = .buildSlice t 1 #[(0, x)]) (e : TypeId) (i : TypeInfo) (z : Value) (cs : List Value) (hx : a.eval x = .agg cs.toArray) (ht : P.underlying t = some (.slice e)) (hi : P.info? e = some i) (hz : i.zero = some z) (hsize : i.size = cs.length) (hpos : 0 < cs.length) (hle : cs.length ≤ 1000)
    (h : wpList P ops Q rest (a.put o.dst (.slice (some ⟨w.heap.size, 0, none⟩) 1 1)) (w.alloc (.cells cs.toArray e))) : wpList P ops Q (o :: rest) a w :=
  wpList_plain hgd fun _ hK => by
    have hrun := run_build_one w t e i z cs ht hi hz hsize hpos hle
    unfold Oper.wp execOp
    simp only [ho, List.map_toArray, List.map_cons, List.map_nil, hx, Sem.run_bind, Sem.run_pure, Result.andThen_ok, hrun]
    exact hK _ _ h
@[go_sem] theorem run_makeFunc (P : Program) (fn : Fn) (first cap : Array Value) (w : World) : (Instr.makeFunc fn first cap).run P w = .ok (.func fn first cap) w := rfl
theorem filter_take_yes {α : Type} {q : α → Bool} {L : List α} {j : Nat} {x : α} (hx : L[j]? = some x) (hp : q x = true) : (L.take (j + 1)).filter q = (L.take j).filter q ++ [x] := by
  rw [List.take_add_one, hx, List.filter_append]; simp [hp]
theorem filter_take_no {α : Type} {q : α → Bool} {L : List α} {j : Nat} {x : α} (hx : L[j]? = some x) (hp : q x = false) : (L.take (j + 1)).filter q = (L.take j).filter q := by
  rw [List.take_add_one, hx, List.filter_append]; simp [hp]
/-- a function that is asked in each world in which what is beside stands -/
def PredS (B : World) (D : PH) (l : List HP) (F : Nat) (caps : Array Value) (cs : List Value) (p : Bool) : Prop := ∀ (W : World) (X : List HP), Sat B D W (X ++ l) → Calls Tryz.prog F (#[.agg cs.toArray] ++ caps) W fun e W' => e = .returned (.bool p) ∧ Kept (fun _ => False) W W'
theorem two_blocks {W : World} {b1 : Nat} {c1 : Array Value} {t1 : TypeId} (h1 : W.heap[b1]? = some (.cells c1 t1 (0, 0))) (cs : Array Value) (t : TypeId) : ∃ W1, W1 = W.alloc (.cells cs t) ∧ Kept (fun _ => False) W W1 ∧ W1.heap[W.heap.size]? = some (.cells cs t (0, 0)) ∧ W1.heap[b1]? = some (.cells c1 t1 (0, 0)) :=
  ⟨_, rfl, (Kept.refl _ _).alloc _, heap_alloc_self W _, heap_alloc_lt h1⟩
theorem kept_blk {w W : World} {b : Nat} {ob : Obj} (k : Kept (fun _ => False) w W) (h : w.heap[b]? = some ob) : W.heap[b]? = some ob := (k.block b (lt_of_heap h) (fun h => h)).trans h
theorem blk_kept {w W : World} {b : Nat} {cs : Array Value} {t : TypeId} (k : Kept (fun _ => False) w W) (h : w.heap[b]? = some (.cells cs t (0, 0))) : W.heap[b]? = some (.cells cs t (0, 0)) := kept_blk k h
theorem alloc2 (w : World) (c1 c2 : Array Value) (t1 t2 : TypeId) : ∃ W, W = (w.alloc (.cells c1 t1)).alloc (.cells c2 t2) ∧ Kept (fun _ => False) w W ∧ W.heap[w.heap.size]? = some (.cells c1 t1 (0, 0)) ∧ W.heap[w.heap.size + 1]? = some (.cells c2 t2 (0, 0)) := by
  have z1 : (w.alloc (.cells c1 t1)).heap.size = w.heap.size + 1 := Array.size_push ..
  have a1 := heap_alloc_self (w.alloc (.cells c1 t1)) (.cells c2 t2)
  rw [z1] at a1
  exact ⟨_, rfl, ((Kept.refl _ _).alloc _).alloc _, heap_alloc_lt (heap_alloc_self w _), a1⟩
/-- three blocks more -/
theorem alloc3 (w : World) (c1 c2 c3 : Array Value) (t1 t2 t3 : TypeId) : ∃ W, W = ((w.alloc (.cells c1 t1)).alloc (.cells c2 t2)).alloc (.cells c3 t3) ∧ Kept (fun _ => False) w W ∧ W.heap[w.heap.size]? = some (.cells c1 t1 (0, 0)) ∧ W.heap[w.heap.size + 1]? = some (.cells c2 t2 (0, 0)) ∧ W.heap[w.heap.size + 1 + 1]? = some (.cells c3 t3 (0, 0)) := by
  have z1 : (w.alloc (.cells c1 t1)).heap.size = w.heap.size + 1 := Array.size_push ..
  have z2 : ((w.alloc (.cells c1 t1)).alloc (.cells c2 t2)).heap.size = w.heap.size + 1 + 1 := (Array.size_push ..).trans (by rw [z1])
  have a1 := heap_alloc_self (w.alloc (.cells c1 t1)) (.cells c2 t2)
  have a2 := heap_alloc_self ((w.alloc (.cells c1 t1)).alloc (.cells c2 t2)) (.cells c3 t3)
  rw [z1] at a1
  rw [z2] at a2
  exact ⟨_, rfl, (((Kept.refl _ _).alloc _).alloc _).alloc _, heap_alloc_lt (heap_alloc_lt (heap_alloc_self w _)), heap_alloc_lt a1, a2⟩
theorem more_lt {C : Type} {l : List (Ent C)} {k : Nat} {x : Ent C} (h : k < moresN l) (hx : l[k]? = some x) : x.more = true := by
  refine take_more (l := l) ?_
  obtain ⟨hlt, rfl⟩ := List.getElem?_eq_some_iff.1 hx
  exact List.mem_take_iff_getElem.2 ⟨k, by omega, rfl⟩
theorem more_ge {C : Type} : ∀ {l : List (Ent C)} {k : Nat} {x : Ent C}, k = moresN l → l[k]? = some x → x.more = false
  | [], k, x, _, hx => by simp at hx
  | y :: l, k, x, h, hx => by
    unfold moresN at h
    cases hy : y.more
    · rw [List.takeWhile_cons_of_neg (by simp [hy])] at h
      subst h
      simp at hx
      rw [← hx]; exact hy
    · rw [List.takeWhile_cons_of_pos (by simp [hy])] at h
      subst h
      simp only [List.length_cons, List.getElem?_cons_succ] at hx
      exact more_ge (l := l) rfl hx

theorem own_cases {C : Type} {R : Rul C} (l : List (Ent C)) (o : Int) (c : C) : (∃ k, ownAt R l o c = some k ∧ idxI (sameE R o c) l = (k : Int) ∧ k < l.length) ∨ (ownAt R l o c = none ∧ idxI (sameE R o c) l = -1) := by
  unfold ownAt idxI
  cases h : l.findIdx? (sameE R o c) with
  | none => exact .inr ⟨rfl, rfl⟩
  | some k =>
    obtain ⟨hlt, _⟩ := List.findIdx?_eq_some_iff_getElem.1 h
    exact .inl ⟨k, rfl, rfl, hlt⟩
theorem giveL_some {C : Type} {R : Rul C} {l : List (Ent C)} {e : Ent C} {k : Nat} (h : ownAt R l e.o e.c = some k) : giveL R l e = l.set k e.less := by unfold giveL; rw [h]
theorem giveL_none {C : Type} {R : Rul C} {l : List (Ent C)} {e : Ent C} (h : ownAt R l e.o e.c = none) : giveL R l e = l ++ [e.less] := by unfold giveL; rw [h]
theorem Sat.set5 {B w : World} {D : PH} {l : List HP} {b : Nat} {t : TypeId} {y0 y1 y2 y3 y4 y5 : Value} (hs : Sat B D w (Proofs.YtgljdkjepdknnaaGreatDoor.blk b #[y0, y1, y2, y3, y4, y5] t :: l)) (u : Value) : Sat B D (w.setCell ⟨b, 4, none⟩ u) (Proofs.YtgljdkjepdknnaaGreatDoor.blk b #[y0, y1, y2, y3, u, y5] t :: l) := hs.set 4 u
theorem Sat.set6 {B w : World} {D : PH} {l : List HP} {b : Nat} {t : TypeId} {y0 y1 y2 y3 y4 y5 : Value} (hs : Sat B D w (Proofs.YtgljdkjepdknnaaGreatDoor.blk b #[y0, y1, y2, y3, y4, y5] t :: l)) (u : Value) : Sat B D (w.setCell ⟨b, 5, none⟩ u) (Proofs.YtgljdkjepdknnaaGreatDoor.blk b #[y0, y1, y2, y3, y4, u] t :: l) := hs.set 5 u
theorem Rd.takeE {α : Type} {f : α → List Value} {z : Nat} (hf : ∀ a, (f a).length = z) {w : World} {ao : Option Addr} {n cap m : Nat} {xs : List α} (h : Rd w z (.slice ao n cap) n (xs.flatMap f)) (hm : m ≤ n) (hl : xs.length = n) : Rd w z (.slice ao m cap) (xs.take m).length ((xs.take m).flatMap f) := by
  obtain ⟨h1, h2, ao', cap', h3, h4, h5, h6, h7⟩ := h
  cases h3
  have e1 : (xs.take m).length = m := by rw [List.length_take]; omega
  rw [e1]
  refine ⟨by rw [flat_len hf, e1], by omega, ao, cap, rfl, by omega, h5, h6, ?_⟩
  rcases h7 with h7 | ⟨g, o, rfl, h8⟩
  · exact .inl (by omega)
  · refine .inr ⟨g, o, rfl, fun j u hu => ?_⟩
    rw [← flat_take hf, List.getElem?_take] at hu
    split at hu
    · exact h8 j u hu
    · cases hu
theorem askQ_go {C : Type} {R : Rul C} {q : Qm C} {o : Int} {c : C} {b : Bool} {e : Ent C} {i : Nat} (hw : (waitAt q.waits o).isSome = false) (ha : askFor R q o c = some (e, i)) : askQ R q o c b = if freeE R q o e.c (q.waits.take i) then (giveQ R q e, true) else if b then (⟨q.held, q.waits.take i ++ [e] ++ q.waits.drop i⟩, false) else (q, false) := by
  unfold askQ; rw [hw, ha]; simp
theorem wait_cases {C : Type} (l : List (Ent C)) (o : Int) : ((waitAt l o).isSome = true ∧ 0 ≤ idxI (ofE o) l) ∨ ((waitAt l o).isSome = false ∧ idxI (ofE o) l = -1) := by
  unfold waitAt idxI
  cases h : l.findIdx? (ofE o) with
  | none => exact .inr ⟨rfl, rfl⟩
  | some k => exact .inl ⟨rfl, by dsimp only; omega⟩
theorem flat_ins {α : Type} {f : α → List Value} {z : Nat} (hf : ∀ a, (f a).length = z) (xs : List α) (i : Nat) (x : α) : (xs.flatMap f).take (i * z) ++ f x ++ (xs.flatMap f).drop (i * z) = (xs.take i ++ [x] ++ xs.drop i).flatMap f := by
  rw [flat_take hf, flat_drop hf]; simp

theorem first_at {C : Type} {R : Rul C} {q : Qm C} {i : Nat} (hlt : i < q.waits.length) (h : ∀ j, j < i → canAt R q j = false) (hi : canAt R q i = true) : firstFree R q = some i := by
  unfold firstFree
  rw [List.find?_range_eq_some]
  exact ⟨hi, by simpa using hlt, fun j hj => by simp [h j hj]⟩
theorem first_no {C : Type} {R : Rul C} {q : Qm C} (h : ∀ j, j < q.waits.length → canAt R q j = false) : firstFree R q = none := by
  unfold firstFree
  rw [List.find?_eq_none]
  intro j hj
  simp [h j (by simpa using hj)]
theorem can_at {C : Type} {R : Rul C} {q : Qm C} {i : Nat} {e : Ent C} (h : q.waits[i]? = some e) : canAt R q i = freeE R q e.o e.c (q.waits.take i) := by unfold canAt; rw [h]
theorem flat_delE {α : Type} {f : α → List Value} {z : Nat} (hf : ∀ a, (f a).length = z) (xs : List α) (i : Nat) : (xs.flatMap f).take (i * z) ++ (xs.flatMap f).drop ((i + 1) * z) = (xs.eraseIdx i).flatMap f := by
  rw [flat_take hf, flat_drop hf, List.eraseIdx_eq_take_drop_succ, List.flatMap_append]
theorem giveL_len {C : Type} {R : Rul C} (l : List (Ent C)) (e : Ent C) : (giveL R l e).length ≤ l.length + 1 := by
  unfold giveL
  split <;> simp
theorem infoInt : (Tryz.prog.info? 3).map (fun i => (i.zero, i.size, i.bytes)) = some (some (.int .i64 0), 1, 8) := by kernel_rfl
abbrev intsP (v : Value) (l : List Int) : HP := ownS 3 1 v l.length (l.map (Value.int .i64))
/-- how many wait, as a world tells it -/
def waitsIn (q : Nat) (w : World) : Nat := match w.cell? ⟨q, 5, none⟩ with
  | some (.slice _ n _) => n
  | _ => 0
theorem PredS.more {B : World} {D : PH} {l : List HP} {F : Nat} {caps : Array Value} {cs : List Value} {p : Bool} (h : PredS B D l F caps cs p) (Y : List HP) : PredS B D (Y ++ l) F caps cs p := fun W X hs => h W (X ++ Y) (by rw [List.append_assoc]; exact hs)
theorem Sat.rm2 {B w : World} {D : PH} {l : List HP} {A C E : HP} (hs : Sat B D w (A :: C :: E :: l)) : Sat B D w (A :: C :: l) := hs.rot.rot.drop
theorem Sat.rot26 {B w : World} {D : PH} {l : List HP} {A C E1 E2 E3 E4 E5 E6 : HP} (hs : Sat B D w (A :: C :: E1 :: E2 :: E3 :: E4 :: E5 :: E6 :: l)) : Sat B D w (E1 :: E2 :: E3 :: E4 :: E5 :: E6 :: A :: C :: l) := hs.perm ((List.perm_append_comm (l₁ := [A, C]) (l₂ := [E1, E2, E3, E4, E5, E6])).append_right l)
theorem Sat.end8 {B w : World} {D : PH} {l : List HP} {A E1 E2 E3 F1 F2 F3 F4 : HP} (hs : Sat B D w (A :: E1 :: E2 :: E3 :: F1 :: F2 :: F3 :: F4 :: l)) : Sat B D w (E1 :: E2 :: E3 :: A :: l) := by
  have h1 : Sat B D w (F1 :: F2 :: F3 :: F4 :: A :: E1 :: E2 :: E3 :: l) := hs.perm ((List.perm_append_comm (l₁ := [A, E1, E2, E3]) (l₂ := [F1, F2, F3, F4])).append_right l)
  exact h1.drop.drop.drop.drop.perm ((List.perm_append_comm (l₁ := [A]) (l₂ := [E1, E2, E3])).append_right l)
theorem Sat.rev5 {B w : World} {D : PH} {l : List HP} {A E1 E2 E3 F1 F2 F3 F4 : HP} (hs : Sat B D w (E1 :: E2 :: E3 :: A :: F1 :: F2 :: F3 :: F4 :: l)) : Sat B D w (E1 :: E2 :: E3 :: F4 :: F3 :: F2 :: F1 :: A :: l) :=
  hs.perm (List.Perm.append_left [E1, E2, E3] ((List.reverse_perm [A, F1, F2, F3, F4]).symm.append_right l))
theorem two_new {B w : World} {D : PH} {l : List HP} (hs : Sat B D w l) (c1 c2 : Array Value) (t1 t2 : TypeId) : ∃ W, W = (w.alloc (.cells c1 t1)).alloc (.cells c2 t2) ∧ Sat B D W (blk w.heap.size c1 t1 :: blk (w.heap.size + 1) c2 t2 :: l) := by
  have h := ((hs.alloc c1 t1).alloc c2 t2)
  rw [World.size_alloc] at h
  exact ⟨_, rfl, h.swap⟩
end Go.Proofs.YtgljdkjepdknnaaGreatDoor
