/- Joined texts: A queue as data: who holds what, who waits; what asking, moving, dropping, leaving come to; what they keep to. Predicates, modes and claims as data. Function values that are asked of elements; places. (printed by genq.py) -/
import Derived.Test.YtgljdkjepdknnaaGreatDoorMR1
import Derived.Shelf.Abstract
import Derived.Deep.Cut
import Derived.Deep.CutBlock
/- A queue as data: who holds what, who waits; what asking, moving, dropping, leaving come to; what they keep to. -/
namespace Go.Proofs.YtgljdkjepdknnaaGreatDoor
set_option linter.unusedSimpArgs false
structure Ent (C : Type) where
 o : Int
 c : C
 more : Bool
structure Rul (C : Type) where
 same : C → C → Bool
 conf : C → C → Bool
 cov : C → C → Bool
 join : C → C → C
structure Qm (C : Type) where
 held : List (Ent C)
 waits : List (Ent C)
section
variable {C : Type} (R : Rul C)
def sameE (o : Int) (c : C) (e : Ent C) : Bool := decide (e.o = o) && R.same e.c c
def ownAt (l : List (Ent C)) (o : Int) (c : C) : Option Nat := l.findIdx? (sameE R o c)
def ofE (o : Int) (e : Ent C) : Bool := decide (e.o = o)
def waitAt (l : List (Ent C)) (o : Int) : Option Nat := l.findIdx? (ofE o)
def meetsE (o : Int) (c : C) (x : Ent C) : Bool := decide (x.o ≠ o) && R.conf x.c c
def freeE (q : Qm C) (o : Int) (c : C) (ahead : List (Ent C)) : Bool := !(q.held.any (meetsE R o c)) && !(ahead.any (meetsE R o c))
def Ent.less (e : Ent C) : Ent C := ⟨e.o, e.c, false⟩
def giveL (l : List (Ent C)) (e : Ent C) : List (Ent C) := match ownAt R l e.o e.c with
 | some k => l.set k e.less
 | none => l ++ [e.less]
def giveQ (q : Qm C) (e : Ent C) : Qm C := ⟨giveL R q.held e, q.waits⟩
def moresN (l : List (Ent C)) : Nat := (l.takeWhile (fun e => e.more)).length
/-- what is asked for, and where it would stand -/
def askFor (q : Qm C) (o : Int) (c : C) : Option (Ent C × Nat) := match ownAt R q.held o c with
 | none => some (⟨o, c, false⟩, q.waits.length)
 | some k => match q.held[k]? with
  | none => none
  | some h => if R.cov h.c c then none else some (⟨o, R.join h.c c, true⟩, moresN q.waits)
def askQ (q : Qm C) (o : Int) (c : C) (wait : Bool) : Qm C × Bool :=
 if (waitAt q.waits o).isSome then (q, false) else
 match askFor R q o c with
 | none => (q, true)
 | some (e, at_) => if freeE R q o e.c (q.waits.take at_) then (giveQ R q e, true) else if wait then (⟨q.held, q.waits.take at_ ++ [e] ++ q.waits.drop at_⟩, false) else (q, false)
def canAt (q : Qm C) (i : Nat) : Bool := match q.waits[i]? with
 | some e => freeE R q e.o e.c (q.waits.take i)
 | none => false
def firstFree (q : Qm C) : Option Nat := (List.range q.waits.length).find? (canAt R q)
def moveQ : Nat → Qm C → Qm C × List Int
 | 0, q => (q, [])
 | n + 1, q => match firstFree R q with
  | none => (q, [])
  | some i => match q.waits[i]? with
   | none => (q, [])
   | some e => let x := moveQ n (giveQ R ⟨q.held, q.waits.eraseIdx i⟩ e); (x.1, e.o :: x.2)
def movedQ (q : Qm C) : Qm C × List Int := moveQ R q.waits.length q
def dropQ (q : Qm C) (gone : Ent C → Bool) : Qm C × List Int := movedQ R ⟨q.held.filter (fun e => !gone e), q.waits⟩
def leaveQ (q : Qm C) (o : Int) : Qm C × List Int := movedQ R ⟨q.held, q.waits.filter (fun e => !ofE o e)⟩
def holdsQ (q : Qm C) (o : Int) : List C := (q.held.filter (ofE o)).map (fun e => e.c)
end
section
variable {C : Type} {R : Rul C}
structure QOk (q : Qm C) : Prop where
 mores : q.waits.Pairwise (fun a b => b.more = true → a.more = true)
 once : q.waits.Pairwise (fun a b => a.o ≠ b.o)

theorem more_take {l : List (Ent C)} (h : l.Pairwise (fun a b => b.more = true → a.more = true)) : l.takeWhile (fun e => e.more) = l.filter (fun e => e.more) := by
 induction l with
 | nil => rfl
 | cons x l ih =>
  obtain ⟨h1, h2⟩ := List.pairwise_cons.1 h
  cases hx : x.more
  ·rw [List.takeWhile_cons_of_neg (by simp [hx]), List.filter_cons_of_neg (by simp [hx])]
   symm
   refine List.filter_eq_nil_iff.2 (fun a ha => ?_)
   intro hm
   have := h1 a ha hm
   rw [hx] at this
   cases this
  ·rw [List.takeWhile_cons_of_pos (by simp [hx]), List.filter_cons_of_pos (by simp [hx]), ih h2]
theorem moresN_take (l : List (Ent C)) : l.take (moresN l) = l.takeWhile (fun e => e.more) := by
 unfold moresN
 induction l with
 | nil => rfl
 | cons x l ih =>
  cases hx : x.more
  ·rw [List.takeWhile_cons_of_neg (by simp [hx])]; rfl
  ·rw [List.takeWhile_cons_of_pos (by simp [hx]), List.length_cons, List.take_succ_cons, ih]
theorem moresN_le (l : List (Ent C)) : moresN l ≤ l.length := by
 unfold moresN
 exact (List.takeWhile_sublist _).length_le
theorem take_more {l : List (Ent C)} {e : Ent C} (h : e ∈ l.take (moresN l)) : e.more = true := by
 rw [moresN_take] at h
 simpa using List.all_eq_true.1 (List.all_takeWhile (l := l) (p := fun e => e.more)) e h
theorem waitAt_none {l : List (Ent C)} {o : Int} (h : (waitAt l o).isSome = false) : ∀ e ∈ l, e.o ≠ o := by
 unfold waitAt at h
 intro e he ho
 have h0 : l.findIdx? (ofE o) = none := by simpa using h
 have := List.findIdx?_eq_none_iff.1 h0 e he
 unfold ofE at this
 simp [ho] at this
theorem askFor_o {q : Qm C} {o : Int} {c : C} {e : Ent C} {i : Nat} (h : askFor R q o c = some (e, i)) : e.o = o ∧ i ≤ q.waits.length ∧ ((e.more = false ∧ i = q.waits.length ∧ e.c = c ∧ ownAt R q.held o c = none) ∨ (e.more = true ∧ i = moresN q.waits ∧ ∃ k x, ownAt R q.held o c = some k ∧ q.held[k]? = some x ∧ R.cov x.c c = false ∧ e.c = R.join x.c c)) := by
 unfold askFor at h
 split at h
 ·rename_i h0
  cases h
  exact ⟨rfl, Nat.le_refl _, .inl ⟨rfl, rfl, rfl, h0⟩⟩
 ·rename_i k hk
  split at h
  ·cases h
  ·rename_i x hx
   split at h
   ·cases h
   ·rename_i hc
    cases h
    exact ⟨rfl, moresN_le _, .inr ⟨rfl, rfl, k, x, hk, hx, by simpa using hc, rfl⟩⟩
theorem ask_ok {q : Qm C} (h : QOk q) (o : Int) (c : C) (b : Bool) : QOk (askQ R q o c b).1 := by
 unfold askQ
 split
 ·exact h
 ·rename_i hw
  split
  ·exact h
  ·rename_i e i he
   obtain ⟨ho, hi, hm⟩ := askFor_o he
   split
   ·exact ⟨h.mores, h.once⟩
   ·split
    ·have hne := waitAt_none (o := o) (l := q.waits) (by simpa using hw)
     have hsub : (q.waits.take i ++ q.waits.drop i) = q.waits := List.take_append_drop i _
     refine ⟨?_, ?_⟩
     ·show (q.waits.take i ++ [e] ++ q.waits.drop i).Pairwise _
      have hp := h.mores
      rw [← hsub, List.pairwise_append] at hp
      obtain ⟨p1, p2, p3⟩ := hp
      rw [List.append_assoc, List.pairwise_append]
      refine ⟨p1, List.pairwise_cons.2 ⟨fun a ha hm' => ?_, p2⟩, fun a ha b hb hm' => ?_⟩
      ·rcases hm with ⟨_, rfl, _⟩ | ⟨hm, _⟩
       ·rw [List.drop_length] at ha; cases ha
       ·exact hm
      ·rcases List.mem_cons.1 hb with rfl | hb
       ·rcases hm with ⟨hm, _⟩ | ⟨_, rfl, _⟩
        ·rw [hm] at hm'; cases hm'
        ·exact take_more ha
       ·exact p3 a ha b hb hm'
     ·show (q.waits.take i ++ [e] ++ q.waits.drop i).Pairwise _
      have hp := h.once
      rw [← hsub, List.pairwise_append] at hp
      obtain ⟨p1, p2, p3⟩ := hp
      rw [List.append_assoc, List.pairwise_append]
      refine ⟨p1, List.pairwise_cons.2 ⟨fun a ha => ?_, p2⟩, fun a ha b hb => ?_⟩
      ·rw [ho]; exact (hne a (List.mem_of_mem_drop ha)).symm
      ·rcases List.mem_cons.1 hb with rfl | hb
       ·rw [ho]; exact hne a (List.mem_of_mem_take ha)
       ·exact p3 a ha b hb
    ·exact h
theorem QOk.sub {q : Qm C} (h : QOk q) {l m : List (Ent C)} (hs : l.Sublist q.waits) : QOk ⟨m, l⟩ := ⟨h.mores.sublist hs, h.once.sublist hs⟩
theorem moveQ_some {n : Nat} {q : Qm C} {i : Nat} {e : Ent C} (h : firstFree R q = some i) (he : q.waits[i]? = some e) : moveQ R (n + 1) q = ((moveQ R n (giveQ R ⟨q.held, q.waits.eraseIdx i⟩ e)).1, e.o :: (moveQ R n (giveQ R ⟨q.held, q.waits.eraseIdx i⟩ e)).2) := by
 conv => lhs; unfold moveQ
 simp only [h, he]
theorem moveQ_none {n : Nat} {q : Qm C} (h : firstFree R q = none) : moveQ R n q = (q, []) := by
 cases n with
 | zero => rfl
 | succ n => unfold moveQ; simp only [h]
theorem firstFree_at {q : Qm C} {i : Nat} (h : firstFree R q = some i) : ∃ e, q.waits[i]? = some e ∧ freeE R q e.o e.c (q.waits.take i) = true ∧ i < q.waits.length := by
 unfold firstFree at h
 have h1 := List.find?_some h
 have h2 := List.mem_of_find?_eq_some h
 unfold canAt at h1
 split at h1
 ·rename_i e he
  exact ⟨e, he, h1, by simpa using h2⟩
 ·cases h1
/-- a thing that each step of moving keeps -/
theorem moveQ_ind {P : Qm C → Prop} (step : ∀ (q : Qm C) (i : Nat) (e : Ent C), P q → firstFree R q = some i → q.waits[i]? = some e → P (giveQ R ⟨q.held, q.waits.eraseIdx i⟩ e)) : ∀ (n : Nat) (q : Qm C), P q → P (moveQ R n q).1
 | 0, q, h => h
 | n + 1, q, h => by
  cases hf : firstFree R q with
  | none => rw [moveQ_none hf]; exact h
  | some i =>
   obtain ⟨e, he, _, _⟩ := firstFree_at hf
   rw [moveQ_some hf he]
   exact moveQ_ind step n _ (step q i e h hf he)
theorem moved_ok {q : Qm C} (h : QOk q) : QOk (movedQ R q).1 :=
 moveQ_ind (P := QOk) (fun q _ _ h _ _ => QOk.sub (q := q) h (List.eraseIdx_sublist _ _)) _ _ h
theorem drop_ok {q : Qm C} (h : QOk q) (g : Ent C → Bool) : QOk (dropQ R q g).1 := moved_ok (QOk.sub h (List.Sublist.refl _))
theorem leave_ok {q : Qm C} (h : QOk q) (o : Int) : QOk (leaveQ R q o).1 := moved_ok (QOk.sub h List.filter_sublist)
theorem moveQ_len : ∀ (n : Nat) (q : Qm C), (moveQ R n q).1.waits.length + (moveQ R n q).2.length = q.waits.length
 | 0, q => rfl
 | n + 1, q => by
  cases hf : firstFree R q with
  | none => rw [moveQ_none hf]; rfl
  | some i =>
   obtain ⟨e, he, _, hlt⟩ := firstFree_at hf
   rw [moveQ_some hf he]
   have := moveQ_len n (giveQ R ⟨q.held, q.waits.eraseIdx i⟩ e)
   have h2 : (giveQ R ⟨q.held, q.waits.eraseIdx i⟩ e).waits.length = q.waits.length - 1 := by
    show (q.waits.eraseIdx i).length = _
    rw [List.length_eraseIdx_of_lt hlt]
   rw [h2] at this
   simp only [List.length_cons]
   omega
theorem moveQ_more : ∀ (n : Nat) (q : Qm C), q.waits.length ≤ n → moveQ R n q = movedQ R q := by
 intro n
 induction n with
 | zero =>
  intro q h
  have : q.waits.length = 0 := by omega
  unfold movedQ
  rw [this]
 | succ n ih =>
  intro q h
  by_cases hq : q.waits.length = n + 1
  ·unfold movedQ; rw [hq]
  ·have h1 := ih q (by omega)
   rw [← h1]
   clear ih h1
   have : ∀ (n : Nat) (q : Qm C), q.waits.length ≤ n → moveQ R (n + 1) q = moveQ R n q := by
    intro n
    induction n with
    | zero =>
     intro q h
     have h0 : q.waits = [] := List.eq_nil_of_length_eq_zero (by omega)
     have : firstFree R q = none := by unfold firstFree; rw [h0]; rfl
     rw [moveQ_none this, moveQ_none this]
    | succ n ih =>
     intro q h
     cases hf : firstFree R q with
     | none => rw [moveQ_none hf, moveQ_none hf]
     | some i =>
      obtain ⟨e, he, _, hlt⟩ := firstFree_at hf
      rw [moveQ_some hf he, moveQ_some hf he, ih _ (by show (q.waits.eraseIdx i).length ≤ n; rw [List.length_eraseIdx_of_lt hlt]; omega)]
   exact this n q (by omega)
/-- one step of moving -/
theorem moved_some {q : Qm C} {i : Nat} {e : Ent C} (h : firstFree R q = some i) (he : q.waits[i]? = some e) : movedQ R q = ((movedQ R (giveQ R ⟨q.held, q.waits.eraseIdx i⟩ e)).1, e.o :: (movedQ R (giveQ R ⟨q.held, q.waits.eraseIdx i⟩ e)).2) := by
 have hlt := (List.getElem?_eq_some_iff.1 he).1
 have hl : (giveQ R ⟨q.held, q.waits.eraseIdx i⟩ e).waits.length = q.waits.length - 1 := by
  show (q.waits.eraseIdx i).length = _
  rw [List.length_eraseIdx_of_lt hlt]
 rw [← moveQ_more q.waits.length q (Nat.le_refl _)]
 obtain ⟨m, hm⟩ : ∃ m, q.waits.length = m + 1 := ⟨q.waits.length - 1, by omega⟩
 rw [hm, moveQ_some h he, moveQ_more m _ (by omega)]
theorem moved_none {q : Qm C} (h : firstFree R q = none) : movedQ R q = (q, []) := moveQ_none h
end
section
variable {C : Type} {R : Rul C}
/-! what is held -/
theorem giveL_mem {l : List (Ent C)} {e x : Ent C} (h : x ∈ giveL R l e) : x ∈ l ∨ x = e.less := by
 unfold giveL at h
 split at h
 ·exact List.mem_or_eq_of_mem_set h
 ·simpa using h
/-- no two of different owners are in conflict -/
def Apart (R : Rul C) (l : List (Ent C)) : Prop := ∀ x ∈ l, ∀ y ∈ l, x.o ≠ y.o → R.conf x.c y.c = false
theorem Apart.sub {l m : List (Ent C)} (h : Apart R l) (hs : ∀ x ∈ m, x ∈ l) : Apart R m := fun x hx y hy => h x (hs x hx) y (hs y hy)
/-! what each thing that is there keeps to -/
/-- of all that is held and waited for P holds -/
def AllE (P : Int → C → Prop) (q : Qm C) : Prop := (∀ e ∈ q.held, P e.o e.c) ∧ ∀ e ∈ q.waits, P e.o e.c
theorem give_all {P : Int → C → Prop} {l : List (Ent C)} {e : Ent C} (h : ∀ x ∈ l, P x.o x.c) (he : P e.o e.c) : ∀ x ∈ giveL R l e, P x.o x.c := by
 intro x hx
 rcases giveL_mem hx with hx | rfl
 ·exact h x hx
 ·exact he
theorem moved_all {P : Int → C → Prop} {q : Qm C} (h : AllE P q) : AllE P (movedQ R q).1 :=
 moveQ_ind (P := AllE P) (fun _ _ e h _ he => ⟨give_all h.1 (h.2 e (List.mem_of_getElem? he)), fun x hx => h.2 x (List.mem_of_mem_eraseIdx hx)⟩) _ _ h
theorem drop_all {P : Int → C → Prop} {q : Qm C} (h : AllE P q) (g : Ent C → Bool) : AllE P (dropQ R q g).1 := moved_all ⟨fun x hx => h.1 x (List.mem_filter.1 hx).1, h.2⟩
theorem leave_all {P : Int → C → Prop} {q : Qm C} (h : AllE P q) (o : Int) : AllE P (leaveQ R q o).1 := moved_all ⟨h.1, fun x hx => h.2 x (List.mem_filter.1 hx).1⟩
/-! who waits is blocked -/
theorem own_at {l : List (Ent C)} {o : Int} {c : C} {k : Nat} (h : ownAt R l o c = some k) : ∃ x, l[k]? = some x ∧ x.o = o ∧ R.same x.c c = true ∧ k < l.length := by
 unfold ownAt at h
 obtain ⟨hlt, hk, _⟩ := List.findIdx?_eq_some_iff_getElem.1 h
 unfold sameE at hk
 rw [Bool.and_eq_true, decide_eq_true_eq] at hk
 exact ⟨l[k], List.getElem?_eq_getElem hlt, hk.1, hk.2, hlt⟩
end
section
variable {C : Type} {R : Rul C}
/-- what the rules keep to, of things of which P holds -/
structure RulOk (R : Rul C) (P : C → Prop) : Prop where
 sym : ∀ a b, R.conf a b = R.conf b a
 own : ∀ h c y, R.same h c = true → R.same y (R.join h c) = R.same y c
 keep : ∀ h c y, P h → P c → R.same h c = true → R.conf h y = true → R.conf (R.join h c) y = true
theorem ownAt_join {P : C → Prop} (hR : RulOk R P) {l : List (Ent C)} {o : Int} {h c : C} (hs : R.same h c = true) : ownAt R l o (R.join h c) = ownAt R l o c := by
 unfold ownAt
 have : sameE R o (R.join h c) = sameE R o c := funext fun e => by unfold sameE; rw [hR.own h c e.c hs]
 rw [this]
/-! for whom somebody waits -/
theorem waitAt_get {l : List (Ent C)} {o : Int} {k : Nat} (h : waitAt l o = some k) : ∃ e, l[k]? = some e ∧ e.o = o := by
 unfold waitAt at h
 obtain ⟨hlt, hk, _⟩ := List.findIdx?_eq_some_iff_getElem.1 h
 exact ⟨l[k], List.getElem?_eq_getElem hlt, by simpa [ofE] using hk⟩
/-! where all leave and drop all -/
theorem moved_len (q : Qm C) : (movedQ R q).1.waits.length + (movedQ R q).2.length = q.waits.length := moveQ_len _ _
end
section
variable {C : Type} {R : Rul C}
/-! rising rows of numbers -/
end
section
variable {C : Type} {R : Rul C}
/-! counted owner by owner -/
def ltE (n : Int) (e : Ent C) : Bool := decide (e.o < n)
theorem ltE_succ (n : Int) : ∀ l : List (Ent C), (l.filter (ltE (n + 1))).length = (l.filter (ltE n)).length + (l.filter (ofE n)).length
 | [] => rfl
 | e :: l => by
  have ih := ltE_succ n l
  rw [List.filter_cons, List.filter_cons, List.filter_cons]
  have h : (ltE (n + 1) e = (ltE n e || ofE n e)) ∧ (ltE n e && ofE n e) = false := by
   unfold ltE ofE
   refine ⟨?_, ?_⟩
   ·rw [Bool.eq_iff_iff]; simp; omega
   ·rw [Bool.and_eq_false_iff]; simp; omega
  rw [h.1]
  have h2 := h.2
  cases h3 : ltE n e <;> cases h4 : ofE n e <;> simp_all <;> omega
theorem ltE_all {l : List (Ent C)} {n : Int} (h : ∀ e ∈ l, e.o < n) : l.filter (ltE n) = l := List.filter_eq_self.2 (fun e he => by unfold ltE; simpa using h e he)
theorem ltE_none {l : List (Ent C)} {n : Int} (h : ∀ e ∈ l, n ≤ e.o) : l.filter (ltE n) = [] := List.filter_eq_nil_iff.2 (fun e he => by unfold ltE; have := h e he; simp; omega)
theorem wait_count {l : List (Ent C)} (h : l.Pairwise (fun a b => a.o ≠ b.o)) (o : Int) : (l.filter (ofE o)).length = if (waitAt l o).isSome then 1 else 0 := by
 induction l with
 | nil => rfl
 | cons e l ih =>
  obtain ⟨h1, h2⟩ := List.pairwise_cons.1 h
  have ih := ih h2
  unfold waitAt at *
  rw [List.filter_cons, List.findIdx?_cons]
  by_cases ho : ofE o e = true
  ·rw [if_pos ho, if_pos ho]
   have : l.filter (ofE o) = [] := List.filter_eq_nil_iff.2 (fun x hx => by
    have := h1 x hx
    unfold ofE at ho ⊢
    simp at ho ⊢
    omega)
   simp [this]
  ·rw [if_neg ho, if_neg ho, ih]
   simp
/-! leaving and dropping all -/
theorem drop_len (q : Qm C) (g : Ent C → Bool) : (dropQ R q g).1.waits.length + (dropQ R q g).2.length = q.waits.length := moved_len _
/-! trying -/
end
end Go.Proofs.YtgljdkjepdknnaaGreatDoor

/- Predicates, modes and claims as data. -/
namespace Go.Proofs.YtgljdkjepdknnaaGreatDoor
set_option linter.unusedSimpArgs false
/-- a predicate -/
inductive PredT where
 | mk (op col : Int) (v w : Val) (l : List PredT)
def PredT.op : PredT → Int | .mk a _ _ _ _ => a
def PredT.col : PredT → Int | .mk _ a _ _ _ => a
def PredT.v : PredT → Val | .mk _ _ a _ _ => a
def PredT.w : PredT → Val | .mk _ _ _ a _ => a
def PredT.l : PredT → List PredT | .mk _ _ _ _ a => a
theorem PredT.ind {P : PredT → Prop} (h : ∀ op col v w l, (∀ q ∈ l, P q) → P (.mk op col v w l)) : ∀ p, P p
 | .mk op col v w l => h op col v w l (fun q _hq => PredT.ind h q)
termination_by p => SizeOf.sizeOf p
decreasing_by
 have := List.sizeOf_lt_of_mem _hq
 simp only [PredT.mk.sizeOf_spec]
 omega
/-- what holds of a row, of a part about a column -/
def leafT (op col : Int) (v w : Val) (r : List Val) : Bool :=
 if col < 0 ∨ (r.length : Int) ≤ col then false else
 let x := r.getD col.toNat default
 let c := valCmp x v
 if op = 3 then decide (c = 0) else if op = 4 then !decide (c = 0) else if op = 5 then decide (c < 0) else if op = 6 then decide (c ≤ 0) else if op = 7 then decide (0 < c) else if op = 8 then decide (0 ≤ c) else decide (0 ≤ c) && decide (valCmp x w ≤ 0)
mutual
def PredT.holds : PredT → List Val → Bool
 | .mk op col v w l, r =>
  if op = 1 then true else if 3 ≤ op ∧ op ≤ 9 then leafT op col v w r else if op = 10 then !((PredT.holdsL l r).headD false) else if op = 11 then (PredT.holdsL l r).all id else if op = 12 then (PredT.holdsL l r).any id else false
def PredT.holdsL : List PredT → List Val → List Bool
 | [], _ => []
 | p :: l, r => p.holds r :: PredT.holdsL l r
end
theorem holdsL_map (r : List Val) : ∀ l : List PredT, PredT.holdsL l r = l.map (fun p => p.holds r)
 | [] => rfl
 | p :: l => by unfold PredT.holdsL; rw [holdsL_map r l]; rfl
theorem PredT.holds_eq (op col : Int) (v w : Val) (l : List PredT) (r : List Val) : (PredT.mk op col v w l).holds r =
  if op = 1 then true else if 3 ≤ op ∧ op ≤ 9 then leafT op col v w r else if op = 10 then !((l.map (fun p => p.holds r)).headD false) else if op = 11 then l.all (fun p => p.holds r) else if op = 12 then l.any (fun p => p.holds r) else false := by
 conv => lhs; unfold PredT.holds
 simp only [holdsL_map, List.all_map, List.any_map]
 rfl
open Classical in
noncomputable def predEq (p q : PredT) : Bool := decide (p = q)
theorem predEq_iff {p q : PredT} : predEq p q = true ↔ p = q := by unfold predEq; simp
theorem predEq_self (p : PredT) : predEq p p = true := predEq_iff.2 rfl
noncomputable def predEqL (l m : List PredT) : Bool := decide (l.length = m.length) && (l.zip m).all (fun x => predEq x.1 x.2)
theorem predEqL_iff : ∀ {l m : List PredT}, predEqL l m = true ↔ l = m
 | [], [] => by simp [predEqL]
 | [], _ :: _ => by simp [predEqL]
 | _ :: _, [] => by simp [predEqL]
 | p :: l, q :: m => by
  have := predEqL_iff (l := l) (m := m)
  unfold predEqL at this ⊢
  simp only [List.length_cons, List.zip_cons_cons, List.all_cons, Bool.and_eq_true, decide_eq_true_eq, predEq_iff, List.cons.injEq, Nat.add_right_cancel_iff] at this ⊢
  rw [← this]
  constructor
  ·rintro ⟨a, b, c⟩; exact ⟨b, a, c⟩
  ·rintro ⟨a, b, c⟩; exact ⟨b, a, c⟩
theorem predEq_mk (a b : Int) (v w : Val) (l : List PredT) (a' b' : Int) (v' w' : Val) (l' : List PredT) : predEq (.mk a b v w l) (.mk a' b' v' w' l') = (decide (a = a') && decide (b = b') && decide (v = v') && decide (w = w') && predEqL l l') := by
 rw [Bool.eq_iff_iff]
 simp only [predEq_iff, Bool.and_eq_true, decide_eq_true_eq, predEqL_iff, PredT.mk.injEq]
 constructor
 ·rintro ⟨a, b, c, d, e⟩; exact ⟨⟨⟨⟨a, b⟩, c⟩, d⟩, e⟩
 ·rintro ⟨⟨⟨⟨a, b⟩, c⟩, d⟩, e⟩; exact ⟨a, b, c, d, e⟩

/-! modes -/
def modeR (m : Int) : Bool := decide (0 ≤ m) && decide (m ≤ 6)
/-- those against a mode, a bit each -/
def agT : List Nat := [0, 64, 120, 84, 124, 116, 126]
def agM (m : Int) : Nat := agT.getD m.toNat 0
def fitsM (a b : Int) : Bool := modeR a && modeR b && ((agM a >>> b.toNat) &&& 1 == 0)
def coversM (a b : Int) : Bool := modeR a && modeR b && (List.range 7).all (fun i => !(fitsM a i) || fitsM b i)
def joinS (a b : Int) (best : Int) (m : Nat) : Int := if coversM m a && coversM m b && coversM best m then (m : Int) else best
def joinM (a b : Int) : Int := if modeR a && modeR b then (List.range 7).foldl (joinS a b) 6 else 0
theorem modeR_cases {m : Int} (h : modeR m = true) : m = 0 ∨ m = 1 ∨ m = 2 ∨ m = 3 ∨ m = 4 ∨ m = 5 ∨ m = 6 := by
 unfold modeR at h
 simp only [Bool.and_eq_true, decide_eq_true_eq] at h
 omega
theorem fitsM_sym (a b : Int) : fitsM a b = fitsM b a := by
 by_cases ha : modeR a = true
 ·by_cases hb : modeR b = true
  ·rcases modeR_cases ha with rfl | rfl | rfl | rfl | rfl | rfl | rfl <;> rcases modeR_cases hb with rfl | rfl | rfl | rfl | rfl | rfl | rfl <;> decide
  ·unfold fitsM; simp [hb]
 ·unfold fitsM; simp [ha]
/-- who joins fits with less -/
theorem fits_join {a b x : Int} (ha : modeR a = true) (hb : modeR b = true) (h : fitsM a x = false) : fitsM (joinM a b) x = false := by
 by_cases hx : modeR x = true
 ·revert h
  rcases modeR_cases ha with rfl | rfl | rfl | rfl | rfl | rfl | rfl <;> rcases modeR_cases hb with rfl | rfl | rfl | rfl | rfl | rfl | rfl <;> rcases modeR_cases hx with rfl | rfl | rfl | rfl | rfl | rfl | rfl <;> decide
 ·unfold fitsM; simp [hx]

/-! claims -/
structure Clm where
 kind : Int
 table : Int
 mode : Int
 key : Val
 imgs : List (List Val)
 pred : PredT
noncomputable def clmSame (a b : Clm) : Bool := decide (a.kind = b.kind) && decide (a.table = b.table) && (if a.kind = 1 then true else if a.kind = 2 then decide (a.key = b.key) else if a.kind = 3 then predEq a.pred b.pred else false)
def clmMeets (p w : Clm) : Bool := decide (w.mode = 6) && w.imgs.any (fun r => decide (0 < r.length) && p.pred.holds r)
def clmConf (a b : Clm) : Bool := decide (a.table = b.table) &&
 (if a.kind = 1 ∧ b.kind = 1 then !fitsM a.mode b.mode else if a.kind = 2 ∧ b.kind = 2 then decide (a.key = b.key) && !fitsM a.mode b.mode else if a.kind = 3 ∧ b.kind = 2 then clmMeets a b else if a.kind = 2 ∧ b.kind = 3 then clmMeets b a else false)
def imgIn (l : List (List Val)) (r : List Val) : Bool := l.any (fun x => decide (x = r))
noncomputable def clmCov (a b : Clm) : Bool := clmSame a b && coversM a.mode b.mode && b.imgs.all (fun r => imgIn a.imgs r)
def imgJoin (l m : List (List Val)) : List (List Val) := m.foldl (fun o r => if imgIn o r then o else o ++ [r]) l
noncomputable def clmJoin (a b : Clm) : Clm := if clmSame a b then { a with mode := joinM a.mode b.mode, imgs := imgJoin a.imgs b.imgs } else a
theorem clmConf_sym (a b : Clm) : clmConf a b = clmConf b a := by
 unfold clmConf
 by_cases ht : a.table = b.table
 ·rw [fitsM_sym b.mode a.mode]
  have hk : decide (a.key = b.key) = decide (b.key = a.key) := by rw [Bool.eq_iff_iff]; simp [eq_comm]
  rw [hk]
  simp only [ht, decide_true, Bool.true_and]
  by_cases h1 : a.kind = 1 <;> by_cases h2 : b.kind = 1 <;> by_cases h3 : a.kind = 2 <;> by_cases h4 : b.kind = 2 <;> by_cases h5 : a.kind = 3 <;> by_cases h6 : b.kind = 3 <;> simp_all
 ·simp [ht, Ne.symm ht]
theorem clmSame_iff {a b : Clm} : clmSame a b = true ↔ a.kind = b.kind ∧ a.table = b.table ∧ (a.kind = 1 ∨ (a.kind = 2 ∧ a.key = b.key) ∨ (a.kind = 3 ∧ a.pred = b.pred)) := by
 unfold clmSame
 rw [Bool.and_eq_true, Bool.and_eq_true, decide_eq_true_eq, decide_eq_true_eq, and_assoc]
 refine and_congr_right (fun _ => and_congr_right (fun _ => ?_))
 by_cases h1 : a.kind = 1
 ·simp [h1]
 ·by_cases h2 : a.kind = 2
  ·simp [h2]
  ·by_cases h3 : a.kind = 3
   ·simp [h3, predEq_iff]
   ·simp [h1, h2, h3]
theorem clmSame_sym (a b : Clm) : clmSame a b = clmSame b a := by
 rw [Bool.eq_iff_iff, clmSame_iff, clmSame_iff]
 constructor
 ·rintro ⟨h1, h2, h3⟩
  exact ⟨h1.symm, h2.symm, by rw [h1] at h3; rcases h3 with h | ⟨h, h'⟩ | ⟨h, h'⟩; exact .inl h; exact .inr (.inl ⟨h, h'.symm⟩); exact .inr (.inr ⟨h, h'.symm⟩)⟩
 ·rintro ⟨h1, h2, h3⟩
  exact ⟨h1.symm, h2.symm, by rw [h1] at h3; rcases h3 with h | ⟨h, h'⟩ | ⟨h, h'⟩; exact .inl h; exact .inr (.inl ⟨h, h'.symm⟩); exact .inr (.inr ⟨h, h'.symm⟩)⟩
theorem clmSame_trans {a b c : Clm} (h : clmSame a b = true) : clmSame c a = clmSame c b := by
 obtain ⟨h1, h2, h3⟩ := clmSame_iff.1 h
 rw [Bool.eq_iff_iff, clmSame_iff, clmSame_iff, ← h1, ← h2]
 refine and_congr_right (fun hk => and_congr_right (fun _ => ?_))
 rw [hk]
 rcases h3 with h | ⟨h, h'⟩ | ⟨h, h'⟩
 ·simp [h]
 ·simp [h, h']
 ·simp [h, h']
theorem clmSame_join (h c y : Clm) (hs : clmSame h c = true) : clmSame y (clmJoin h c) = clmSame y c := by
 rw [← clmSame_trans hs]
 unfold clmJoin
 rw [if_pos hs]
 rfl
theorem imgJoin_mem {l : List (List Val)} : ∀ {m : List (List Val)} {r : List Val}, r ∈ l → r ∈ imgJoin l m := by
 intro m
 unfold imgJoin
 induction m generalizing l with
 | nil => intro r h; exact h
 | cons x m ih =>
  intro r h
  show r ∈ m.foldl _ _
  refine ih ?_
  dsimp only
  split
  ·exact h
  ·exact List.mem_append.2 (.inl h)
/-- those whose joins are in conflict with what one of both is -/
def clmPlain (c : Clm) : Bool := if c.kind = 1 then modeR c.mode && c.imgs.isEmpty else if c.kind = 2 then ((decide (c.mode = 3) || decide (c.mode = 5)) && c.imgs.isEmpty || decide (c.mode = 6)) else if c.kind = 3 then decide (c.mode = 3) && c.imgs.isEmpty else false
theorem joinM_x {a b : Int} (ha : a = 6) (hb : modeR b = true) : joinM a b = 6 := by
 subst ha
 rcases modeR_cases hb with rfl | rfl | rfl | rfl | rfl | rfl | rfl <;> decide
theorem plain_mode {c : Clm} (h : clmPlain c = true) : modeR c.mode = true := by
 unfold clmPlain at h
 split at h
 ·simp at h; exact h.1
 ·split at h
  ·simp only [Bool.or_eq_true, Bool.and_eq_true, decide_eq_true_eq] at h
   rcases h with ⟨h | h, _⟩ | h <;> rw [h] <;> decide
  ·split at h
   ·simp only [Bool.and_eq_true, decide_eq_true_eq] at h
    rw [h.1]; decide
   ·cases h
theorem clm_keep (h c y : Clm) (hh : clmPlain h = true) (hc : clmPlain c = true) (hs : clmSame h c = true) (hy : clmConf h y = true) : clmConf (clmJoin h c) y = true := by
 have m1 := plain_mode hh
 have m2 := plain_mode hc
 unfold clmJoin
 rw [if_pos hs]
 unfold clmConf at hy ⊢
 rw [Bool.and_eq_true] at hy ⊢
 refine ⟨hy.1, ?_⟩
 have hy2 := hy.2
 dsimp only
 split
 ·rename_i hk
  rw [if_pos hk] at hy2
  simp only [Bool.not_eq_true'] at hy2 ⊢
  exact fits_join m1 m2 hy2
 ·rename_i hk
  rw [if_neg hk] at hy2
  split
  ·rename_i hk
   rw [if_pos hk] at hy2
   simp only [Bool.and_eq_true, Bool.not_eq_true'] at hy2 ⊢
   exact ⟨hy2.1, fits_join m1 m2 hy2.2⟩
  ·rename_i hk
   rw [if_neg hk] at hy2
   split
   ·rename_i hk
    rw [if_pos hk] at hy2
    exact hy2
   ·rename_i hk
    rw [if_neg hk] at hy2
    split
    ·rename_i hk
     rw [if_pos hk] at hy2
     unfold clmMeets at hy2 ⊢
     rw [Bool.and_eq_true, decide_eq_true_eq] at hy2 ⊢
     refine ⟨joinM_x hy2.1 m2, ?_⟩
     obtain ⟨r, hr, h3⟩ := List.any_eq_true.1 hy2.2
     exact List.any_eq_true.2 ⟨r, imgJoin_mem hr, h3⟩
    ·rename_i hk
     rw [if_neg hk] at hy2
     exact hy2
end Go.Proofs.YtgljdkjepdknnaaGreatDoor

/- Function values that are asked of elements; places. (printed by genq.py) -/
namespace Go.Proofs.YtgljdkjepdknnaaGreatDoor
open Go.ChangeShapes Go.WideShapes Go.ChangeAt Go.RowKit
set_option maxRecDepth 100000
set_option linter.unusedSimpArgs false


/-- the function of a value says p of these cells, in every world in which what was there stands -/
def PredF (F : Nat) (caps : Array Value) (w : World) (cs : List Value) (p : Bool) : Prop := Enters Tryz.prog F ∧ ∀ W, Kept (fun _ => False) w W → Calls Tryz.prog F (#[.agg cs.toArray] ++ caps) W fun e W' => e = .returned (.bool p) ∧ Kept (fun _ => False) W W'
theorem PredF.kept {F : Nat} {caps : Array Value} {w w' : World} {cs : List Value} {p : Bool} (h : PredF F caps w cs p) (k : Kept (fun _ => False) w w') : PredF F caps w' cs p := ⟨h.1, fun W hW => h.2 W (k.trans hW (fun _ h => h.elim))⟩
/-- a place, or below 0 -/
def idxI {α : Type} (p : α → Bool) (xs : List α) : Int := match xs.findIdx? p with
 | some k => (k : Int)
 | none => -1
theorem idxI_at {α : Type} {p : α → Bool} {xs : List α} {j : Nat} {x : α} (h : ∀ y ∈ xs.take j, p y = false) (hx : xs[j]? = some x) (hp : p x = true) : idxI p xs = j := by
 unfold idxI
 have hlt := (List.getElem?_eq_some_iff.1 hx).1
 have : xs.findIdx? p = some j := by
  refine List.findIdx?_eq_some_iff_getElem.2 ⟨hlt, ?_, fun i hi => ?_⟩
  ·rw [List.getElem?_eq_getElem hlt] at hx
   rw [Option.some.inj hx]; exact hp
  ·have := h (xs[i]'(by omega)) (List.mem_take_iff_getElem.2 ⟨i, by omega, rfl⟩)
   simp [this]
 rw [this]
theorem idxI_none {α : Type} {p : α → Bool} {xs : List α} (h : ∀ y ∈ xs, p y = false) : idxI p xs = -1 := by
 unfold idxI
 rw [List.findIdx?_eq_none_iff.2 h]
theorem idxI_any {α : Type} (p : α → Bool) (xs : List α) : decide (0 ≤ idxI p xs) = xs.any p := by
 unfold idxI
 cases h : xs.findIdx? p with
 | none =>
  have := List.findIdx?_eq_none_iff.1 h
  simp only
  symm
  rw [show decide ((0 : Int) ≤ -1) = false by decide]
  exact List.any_eq_false.2 (fun x hx => by simp [this x hx])
 | some k =>
  obtain ⟨hlt, hk, _⟩ := List.findIdx?_eq_some_iff_getElem.1 h
  simp only
  rw [show decide ((0 : Int) ≤ (k : Int)) = true by simp]
  symm
  exact List.any_eq_true.2 ⟨_, List.getElem_mem hlt, hk⟩
theorem mem_take_succ {α : Type} {L : List α} {i : Nat} {p : α} {P : α → Prop} (h : ∀ x ∈ L.take i, P x) (hp : L[i]? = some p) (hP : P p) : ∀ x ∈ L.take (i + 1), P x := by
 intro x hx
 rw [List.take_add_one, hp] at hx
 rcases List.mem_append.1 hx with hx | hx
 ·exact h x hx
 ·simp at hx; subst hx; exact hP
/-- an element of a row of elements -/
theorem elem_range {α : Type} {f : α → List Value} {z : Nat} (hf : ∀ a, (f a).length = z) {w : World} {ao : Option Addr} {N cap j : Nat} {xs : List α} {x : α} (h : Rd w z (.slice ao N cap) N (xs.flatMap f)) (hx : xs[j]? = some x) (hl : xs.length = N) : ∃ g o, ao = some ⟨g, o, none⟩ ∧ w.rangeAt g (o + j * z) (f x) := by
 have hlt := (List.getElem?_eq_some_iff.1 hx).1
 rcases h.2.2 with ⟨_, _, hv, _, _, _, hc⟩
 cases hv
 rcases hc with h0 | ⟨g, o, hg, hcell⟩
 ·omega
 ·refine ⟨g, o, hg, fun i u hu => ?_⟩
  rw [Nat.add_assoc]
  exact hcell _ _ (flat_get hf xs j x hx i u hu)
section
variable {P : Program} {w : World} {o : Oper} {a : Act}
/-- a struct is loaded whole, where it is known what that yields: among plain operations; in a region that draws -/
theorem wpList_ld {ops : Array Oper} {rest : List Oper} {Q : Exit → Act → World → Prop} (hgd : o.guard = none) (ty : TypeId) (x : Operand) (ho : o.op = .load ty x) (b i : Nat) (hx : a.eval x = .pointer (some ⟨b, i, none⟩)) (cs : List Value)
  (hl : (loadVar ty ⟨b, i, none⟩).run P w = .ok (.agg cs.toArray) w) (h : wpList P ops Q rest (a.put o.dst (.agg cs.toArray)) w) : wpList P ops Q (o :: rest) a w :=
 wpList_plain hgd fun _ hK => by
  unfold Oper.wp execOp
  simp only [ho, hx, Instr.loadAt, Instr.sureAddr, Sem.run_bind, Sem.run_pure, Result.andThen_ok, hl]
  exact hK _ _ h
theorem still_ld {K : Act → Prop} (ty : TypeId) (x : Operand) (ho : o.op = .load ty x) (b i : Nat) (hx : a.eval x = .pointer (some ⟨b, i, none⟩)) (cs : List Value)
  (hl : (loadVar ty ⟨b, i, none⟩).run P w = .ok (.agg cs.toArray) w) (h : K (a.put o.dst (.agg cs.toArray))) : o.still P a w K := by
 unfold Oper.still execOp
 simp only [ho, hx, Instr.loadAt, Instr.sureAddr, Sem.run_bind, Sem.run_pure, Result.andThen_ok, hl]
 rw [Oper.stillUpon_value]
 exact h
end
theorem blk_range {w : World} {b : Nat} {cs : List Value} {t : TypeId} {fr : Nat × Nat} (h : w.heap[b]? = some (.cells cs.toArray t fr)) : w.rangeAt b 0 cs := fun j v hv => by
 rw [cell_of_row w b (0 + j) cs.toArray t fr h, Nat.zero_add]
 simpa using hv

theorem setRow_alloc (w : World) (z cs : Array Value) (t : TypeId) : (w.alloc (.cells z t)).setRow w.heap.size cs = w.alloc (.cells cs t) := by
 unfold World.setRow World.alloc
 congr 1
 apply Array.ext_getElem?
 intro k
 simp only [Array.getElem?_modify, Array.getElem?_push]
 by_cases hk : k = w.heap.size
 ·subst hk; simp
 ·simp [hk, Ne.symm hk]
section
variable {P : Program} {B w : World} {D : PH} {l : List HP} {ops : Array Oper} {rest : List Oper} {o : Oper} {a : Act} {Q : Exit → Act → World → Prop}
/-- what is stored whole into a variable that was just made -/
theorem wpList_store_new (hgd : o.guard = none) (ty : TypeId) (x y : Operand) (ho : o.op = .store ty x y)
  (cells : List Value) (z : Array Value) (t : TypeId) (hx : a.eval x = .pointer (some ⟨w.heap.size, 0, none⟩)) (hy : a.eval y = .agg cells.toArray) (hi : (P.info? ty).map (·.size) = some cells.length)
  (hold : z.size = cells.length) (h1 : ∀ u ∈ cells, u.oneCell' = true)
  (h : wpList P ops Q rest (a.put o.dst undef) (w.alloc (.cells cells.toArray t))) : wpList P ops Q (o :: rest) a (w.alloc (.cells z t)) :=
 wpList_store_row hgd ty x y ho w.heap.size cells.toArray hx hy t z (heap_alloc_self w _) (by simpa using hi) (by simpa using hold) (by simpa [List.all_eq_true] using h1) (by rw [setRow_alloc]; exact h)
/-- what is stored whole into the middle of a row of one's own -/
theorem wpList_store_at (hgd : o.guard = none) (ty : TypeId) (x y : Operand) (ho : o.op = .store ty x y) (e : TypeId) (g off : Nat) (hx : a.eval x = .pointer (some ⟨g, off, none⟩)) (cs : List Value) (hy : a.eval y = .agg cs.toArray) (cur : List Value) (hs : Sat B D w (blk g cur.toArray e :: l))
  (hi : (P.info? ty).map (·.size) = some cs.length) (hfit : off + cs.length ≤ cur.length) (h1 : ∀ u ∈ cs, u.oneCell' = true)
  (h : ∀ w', Sat B D w' (blk g (lay cur off cs).toArray e :: l) → wpList P ops Q rest (a.put o.dst undef) w') : wpList P ops Q (o :: rest) a w :=
 wpList_plain hgd fun _ hK => by
  have hst := run_storeCells_at P g off e cs 0 cur.toArray w hs.heap_blk (by simpa using hfit) h1
  simp only [Nat.add_zero] at hst
  have hsz : ∃ i, P.info? ty = some i ∧ i.size = cs.length := by
   cases hq : P.info? ty with
   | none => rw [hq] at hi; cases hi
   | some i => exact ⟨i, rfl, by rw [hq] at hi; simpa using hi⟩
  obtain ⟨i, hq, hsi⟩ := hsz
  have hrun : (storeVar ty ⟨g, off, none⟩ (.agg cs.toArray)).run P w = .ok () (w.setRow g (lay cur off cs).toArray) := by
   simp [storeVar, sizeOf, typeInfo, hq, hsi, Value.cells, hst, lay]
  unfold Oper.wp execOp
  simp only [ho, hx, hy, Instr.storeAt, Instr.sureAddr, Sem.run_bind, Sem.run_pure, Result.andThen_ok, hrun]
  exact hK _ _ (h _ (hs.setRow _))
theorem lay_flat {α : Type} {f : α → List Value} {z : Nat} (hf : ∀ a, (f a).length = z) {xs : List α} {i : Nat} {x : α} (hi : i < xs.length) : ((xs.set i x).flatMap f) = lay (xs.flatMap f) (i * z) (f x) := by
 unfold lay
 rw [hf, flat_take hf, show i * z + z = (i + 1) * z by rw [Nat.succ_mul], flat_drop hf, List.set_eq_take_append_cons_drop, if_pos hi]
 simp
theorem lay_take {cur cs : List Value} {off n : Nat} (h : off + cs.length ≤ n) (hn : n ≤ cur.length) : (lay cur off cs).take n = lay (cur.take n) off cs := by
 unfold lay
 rw [List.append_assoc, List.take_append, List.take_append, List.length_take, List.take_take]
 rw [show min off cur.length = off by omega]
 rw [show min n off = off by omega, List.take_of_length_le (l := cs) (by omega)]
 rw [List.take_take, show min off n = off by omega, List.append_assoc]
 congr 2
 rw [List.drop_take]
 congr 1
 omega
/-- an element of a slice of one's own is stored -/
theorem wpList_store_elem {α : Type} {f : α → List Value} {z : Nat} (hf : ∀ a, (f a).length = z) (hone : ∀ a, ∀ u ∈ f a, u.oneCell' = true) (hgd : o.guard = none) (ty : TypeId) (x y : Operand) (ho : o.op = .store ty x y) (e : TypeId) (g off i n cap : Nat) (hx : a.eval x = .pointer (some ⟨g, off, none⟩)) (hoff : off = i * z) (b : α) (hy : a.eval y = .agg (f b).toArray) (xs : List α)
  (hs : Sat B D w (ownS e z (.slice (some ⟨g, 0, none⟩) n cap) n (xs.flatMap f) :: l)) (hi : (P.info? ty).map (·.size) = some z) (hin : i < n) (hn : xs.length = n)
  (h : ∀ w', Sat B D w' (ownS e z (.slice (some ⟨g, 0, none⟩) n cap) n ((xs.set i b).flatMap f) :: l) → wpList P ops Q rest (a.put o.dst undef) w') : wpList P ops Q (o :: rest) a w := by
 subst hoff
 obtain ⟨cur, hb, h1, h2, h3, h4, h5, h6⟩ := hs.own_row
 have hle : i * z + z ≤ n * z := by rw [← Nat.succ_mul]; exact Nat.mul_le_mul_right _ hin
 have hnc : n * z ≤ cap * z := Nat.mul_le_mul_right _ h1
 refine wpList_store_at hgd ty x y ho e g (i * z) hx (f b) hy cur hb (by rw [hf]; exact hi) (by rw [hf]; omega) (hone b) (fun w' hs' => h w' ?_)
 refine hs'.row_own h1 h2 (by rw [lay_len _ _ _ (by rw [hf]; omega)]; exact h3) ?_ (fun u hu => ?_)
 ·rw [lay_take (by rw [hf]; omega) (by omega), h4, lay_flat hf (by omega)]
 ·obtain ⟨a', _, hu⟩ := List.mem_flatMap.1 hu
  exact hone a' u hu
end

theorem take_set_succ {α : Type} {ys : List α} {i : Nat} {x : α} (h : i < ys.length) : (ys.set i x).take (i + 1) = ys.take i ++ [x] := by
 rw [List.set_eq_take_append_cons_drop, if_pos h, List.take_append, List.take_of_length_le (by rw [List.length_take]; omega), List.length_take, Nat.min_eq_left (by omega), show i + 1 - i = 1 by omega]
 rfl
theorem fold_set : ∀ (cs : List Value) (k : Nat) (A : Array Value), k + cs.length ≤ A.size → ((cs.zipIdx k).foldl (fun (A : Array Value) (x : Value × Nat) => A.setIfInBounds (0 + x.2) x.1) A).toList = lay A.toList k cs
 | [], k, A, _ => by unfold lay; simp
 | c :: cs, k, A, h => by
  simp only [List.length_cons] at h
  rw [List.zipIdx_cons, List.foldl_cons, fold_set cs (k + 1) _ (by simp; omega)]
  unfold lay
  simp only [Nat.zero_add, Array.toList_setIfInBounds, List.length_cons]
  rw [take_set_succ (by simp; omega), List.drop_set, if_pos (by omega), show k + 1 + cs.length = k + (cs.length + 1) by omega]
  simp
theorem run_build_one {P : Program} (w : World) (t e : TypeId) (i : TypeInfo) (z : Value) (cs : List Value) (ht : P.underlying t = some (.slice e)) (hi : P.info? e = some i) (hz : i.zero = some z) (hsize : i.size = cs.length) (hpos : 0 < cs.length) (hle : cs.length ≤ 1000) :
  (Instr.buildSlice t 1 #[(0, .agg cs.toArray)]).run P w = .ok (.slice (some ⟨w.heap.size, 0, none⟩) 1 1) (w.alloc (.cells cs.toArray e)) := by
 have hf : ∀ A : Array Value, A.size = cs.length → cs.zipIdx.foldl (fun (cs : Array Value) (x : Value × Nat) => cs.setIfInBounds x.2 x.1) A = cs.toArray := by
  intro A hA
  apply Array.toList_inj.1
  have := fold_set cs 0 A (by omega)
  simp only [Nat.zero_add] at this
  rw [this]
  unfold lay
  simp [hA]
 have hne : cs.length ≠ 0 := by omega
 have h24 : ¬ (16777216 < cs.length) := by omega
 simp [Instr.buildSlice, run_underlying ht, sizeOf, typeInfo, zeroValue, hi, hz, hsize, Instr.fill, Value.cells, newRow, hne, h24]
 congr 2
 exact hf _ (by simp)
theorem wpList_build_one {P : Program} {ops : Array Oper} {rest : List Oper} {o : Oper} {a : Act} {w : World} {Q : Exit → Act → World → Prop} (hgd : o.guard = none) (t : TypeId) (x : Operand) (ho : o.op = .buildSlice t 1 #[(0, x)]) (e : TypeId) (i : TypeInfo) (z : Value) (cs : List Value) (hx : a.eval x = .agg cs.toArray) (ht : P.underlying t = some (.slice e)) (hi : P.info? e = some i) (hz : i.zero = some z) (hsize : i.size = cs.length) (hpos : 0 < cs.length) (hle : cs.length ≤ 1000)
  (h : wpList P ops Q rest (a.put o.dst (.slice (some ⟨w.heap.size, 0, none⟩) 1 1)) (w.alloc (.cells cs.toArray e))) : wpList P ops Q (o :: rest) a w :=
 wpList_plain hgd fun _ hK => by
  have hrun := run_build_one w t e i z cs ht hi hz hsize hpos hle
  unfold Oper.wp execOp
  simp only [ho, List.map_toArray, List.map_cons, List.map_nil, hx, Sem.run_bind, Sem.run_pure, Result.andThen_ok, hrun]
  exact hK _ _ h
@[go_sem] theorem run_makeFunc (P : Program) (fn : Fn) (first cap : Array Value) (w : World) : (Instr.makeFunc fn first cap).run P w = .ok (.func fn first cap) w := rfl
theorem filter_take_yes {α : Type} {q : α → Bool} {L : List α} {j : Nat} {x : α} (hx : L[j]? = some x) (hp : q x = true) : (L.take (j + 1)).filter q = (L.take j).filter q ++ [x] := by
 rw [List.take_add_one, hx, List.filter_append]; simp [hp]
theorem filter_take_no {α : Type} {q : α → Bool} {L : List α} {j : Nat} {x : α} (hx : L[j]? = some x) (hp : q x = false) : (L.take (j + 1)).filter q = (L.take j).filter q := by
 rw [List.take_add_one, hx, List.filter_append]; simp [hp]
/-- a function that is asked in each world in which what is beside stands -/
def PredS (B : World) (D : PH) (l : List HP) (F : Nat) (caps : Array Value) (cs : List Value) (p : Bool) : Prop := ∀ (W : World) (X : List HP), Sat B D W (X ++ l) → Calls Tryz.prog F (#[.agg cs.toArray] ++ caps) W fun e W' => e = .returned (.bool p) ∧ Kept (fun _ => False) W W'
theorem two_blocks {W : World} {b1 : Nat} {c1 : Array Value} {t1 : TypeId} (h1 : W.heap[b1]? = some (.cells c1 t1 (0, 0))) (cs : Array Value) (t : TypeId) : ∃ W1, W1 = W.alloc (.cells cs t) ∧ Kept (fun _ => False) W W1 ∧ W1.heap[W.heap.size]? = some (.cells cs t (0, 0)) ∧ W1.heap[b1]? = some (.cells c1 t1 (0, 0)) :=
 ⟨_, rfl, (Kept.refl _ _).alloc _, heap_alloc_self W _, heap_alloc_lt h1⟩
theorem kept_blk {w W : World} {b : Nat} {ob : Obj} (k : Kept (fun _ => False) w W) (h : w.heap[b]? = some ob) : W.heap[b]? = some ob := (k.block b (lt_of_heap h) (fun h => h)).trans h
theorem blk_kept {w W : World} {b : Nat} {cs : Array Value} {t : TypeId} (k : Kept (fun _ => False) w W) (h : w.heap[b]? = some (.cells cs t (0, 0))) : W.heap[b]? = some (.cells cs t (0, 0)) := kept_blk k h
theorem alloc2 (w : World) (c1 c2 : Array Value) (t1 t2 : TypeId) : ∃ W, W = (w.alloc (.cells c1 t1)).alloc (.cells c2 t2) ∧ Kept (fun _ => False) w W ∧ W.heap[w.heap.size]? = some (.cells c1 t1 (0, 0)) ∧ W.heap[w.heap.size + 1]? = some (.cells c2 t2 (0, 0)) := by
 have z1 : (w.alloc (.cells c1 t1)).heap.size = w.heap.size + 1 := Array.size_push ..
 have a1 := heap_alloc_self (w.alloc (.cells c1 t1)) (.cells c2 t2)
 rw [z1] at a1
 exact ⟨_, rfl, ((Kept.refl _ _).alloc _).alloc _, heap_alloc_lt (heap_alloc_self w _), a1⟩
/-- three blocks more -/
theorem alloc3 (w : World) (c1 c2 c3 : Array Value) (t1 t2 t3 : TypeId) : ∃ W, W = ((w.alloc (.cells c1 t1)).alloc (.cells c2 t2)).alloc (.cells c3 t3) ∧ Kept (fun _ => False) w W ∧ W.heap[w.heap.size]? = some (.cells c1 t1 (0, 0)) ∧ W.heap[w.heap.size + 1]? = some (.cells c2 t2 (0, 0)) ∧ W.heap[w.heap.size + 1 + 1]? = some (.cells c3 t3 (0, 0)) := by
 have z1 : (w.alloc (.cells c1 t1)).heap.size = w.heap.size + 1 := Array.size_push ..
 have z2 : ((w.alloc (.cells c1 t1)).alloc (.cells c2 t2)).heap.size = w.heap.size + 1 + 1 := (Array.size_push ..).trans (by rw [z1])
 have a1 := heap_alloc_self (w.alloc (.cells c1 t1)) (.cells c2 t2)
 have a2 := heap_alloc_self ((w.alloc (.cells c1 t1)).alloc (.cells c2 t2)) (.cells c3 t3)
 rw [z1] at a1
 rw [z2] at a2
 exact ⟨_, rfl, (((Kept.refl _ _).alloc _).alloc _).alloc _, heap_alloc_lt (heap_alloc_lt (heap_alloc_self w _)), heap_alloc_lt a1, a2⟩
theorem more_lt {C : Type} {l : List (Ent C)} {k : Nat} {x : Ent C} (h : k < moresN l) (hx : l[k]? = some x) : x.more = true := by
 refine take_more (l := l) ?_
 obtain ⟨hlt, rfl⟩ := List.getElem?_eq_some_iff.1 hx
 exact List.mem_take_iff_getElem.2 ⟨k, by omega, rfl⟩
theorem more_ge {C : Type} : ∀ {l : List (Ent C)} {k : Nat} {x : Ent C}, k = moresN l → l[k]? = some x → x.more = false
 | [], k, x, _, hx => by simp at hx
 | y :: l, k, x, h, hx => by
  unfold moresN at h
  cases hy : y.more
  ·rw [List.takeWhile_cons_of_neg (by simp [hy])] at h
   subst h
   simp at hx
   rw [← hx]; exact hy
  ·rw [List.takeWhile_cons_of_pos (by simp [hy])] at h
   subst h
   simp only [List.length_cons, List.getElem?_cons_succ] at hx
   exact more_ge (l := l) rfl hx

theorem own_cases {C : Type} {R : Rul C} (l : List (Ent C)) (o : Int) (c : C) : (∃ k, ownAt R l o c = some k ∧ idxI (sameE R o c) l = (k : Int) ∧ k < l.length) ∨ (ownAt R l o c = none ∧ idxI (sameE R o c) l = -1) := by
 unfold ownAt idxI
 cases h : l.findIdx? (sameE R o c) with
 | none => exact .inr ⟨rfl, rfl⟩
 | some k =>
  obtain ⟨hlt, _⟩ := List.findIdx?_eq_some_iff_getElem.1 h
  exact .inl ⟨k, rfl, rfl, hlt⟩
theorem giveL_some {C : Type} {R : Rul C} {l : List (Ent C)} {e : Ent C} {k : Nat} (h : ownAt R l e.o e.c = some k) : giveL R l e = l.set k e.less := by unfold giveL; rw [h]
theorem giveL_none {C : Type} {R : Rul C} {l : List (Ent C)} {e : Ent C} (h : ownAt R l e.o e.c = none) : giveL R l e = l ++ [e.less] := by unfold giveL; rw [h]
theorem Sat.set5 {B w : World} {D : PH} {l : List HP} {b : Nat} {t : TypeId} {y0 y1 y2 y3 y4 y5 : Value} (hs : Sat B D w (Proofs.YtgljdkjepdknnaaGreatDoor.blk b #[y0, y1, y2, y3, y4, y5] t :: l)) (u : Value) : Sat B D (w.setCell ⟨b, 4, none⟩ u) (Proofs.YtgljdkjepdknnaaGreatDoor.blk b #[y0, y1, y2, y3, u, y5] t :: l) := hs.set 4 u
theorem Sat.set6 {B w : World} {D : PH} {l : List HP} {b : Nat} {t : TypeId} {y0 y1 y2 y3 y4 y5 : Value} (hs : Sat B D w (Proofs.YtgljdkjepdknnaaGreatDoor.blk b #[y0, y1, y2, y3, y4, y5] t :: l)) (u : Value) : Sat B D (w.setCell ⟨b, 5, none⟩ u) (Proofs.YtgljdkjepdknnaaGreatDoor.blk b #[y0, y1, y2, y3, y4, u] t :: l) := hs.set 5 u
theorem Rd.takeE {α : Type} {f : α → List Value} {z : Nat} (hf : ∀ a, (f a).length = z) {w : World} {ao : Option Addr} {n cap m : Nat} {xs : List α} (h : Rd w z (.slice ao n cap) n (xs.flatMap f)) (hm : m ≤ n) (hl : xs.length = n) : Rd w z (.slice ao m cap) (xs.take m).length ((xs.take m).flatMap f) := by
 obtain ⟨h1, h2, ao', cap', h3, h4, h5, h6, h7⟩ := h
 cases h3
 have e1 : (xs.take m).length = m := by rw [List.length_take]; omega
 rw [e1]
 refine ⟨by rw [flat_len hf, e1], by omega, ao, cap, rfl, by omega, h5, h6, ?_⟩
 rcases h7 with h7 | ⟨g, o, rfl, h8⟩
 ·exact .inl (by omega)
 ·refine .inr ⟨g, o, rfl, fun j u hu => ?_⟩
  rw [← flat_take hf, List.getElem?_take] at hu
  split at hu
  ·exact h8 j u hu
  ·cases hu
theorem askQ_go {C : Type} {R : Rul C} {q : Qm C} {o : Int} {c : C} {b : Bool} {e : Ent C} {i : Nat} (hw : (waitAt q.waits o).isSome = false) (ha : askFor R q o c = some (e, i)) : askQ R q o c b = if freeE R q o e.c (q.waits.take i) then (giveQ R q e, true) else if b then (⟨q.held, q.waits.take i ++ [e] ++ q.waits.drop i⟩, false) else (q, false) := by
 unfold askQ; rw [hw, ha]; simp
theorem wait_cases {C : Type} (l : List (Ent C)) (o : Int) : ((waitAt l o).isSome = true ∧ 0 ≤ idxI (ofE o) l) ∨ ((waitAt l o).isSome = false ∧ idxI (ofE o) l = -1) := by
 unfold waitAt idxI
 cases h : l.findIdx? (ofE o) with
 | none => exact .inr ⟨rfl, rfl⟩
 | some k => exact .inl ⟨rfl, by dsimp only; omega⟩
theorem flat_ins {α : Type} {f : α → List Value} {z : Nat} (hf : ∀ a, (f a).length = z) (xs : List α) (i : Nat) (x : α) : (xs.flatMap f).take (i * z) ++ f x ++ (xs.flatMap f).drop (i * z) = (xs.take i ++ [x] ++ xs.drop i).flatMap f := by
 rw [flat_take hf, flat_drop hf]; simp

theorem first_at {C : Type} {R : Rul C} {q : Qm C} {i : Nat} (hlt : i < q.waits.length) (h : ∀ j, j < i → canAt R q j = false) (hi : canAt R q i = true) : firstFree R q = some i := by
 unfold firstFree
 rw [List.find?_range_eq_some]
 exact ⟨hi, by simpa using hlt, fun j hj => by simp [h j hj]⟩
theorem first_no {C : Type} {R : Rul C} {q : Qm C} (h : ∀ j, j < q.waits.length → canAt R q j = false) : firstFree R q = none := by
 unfold firstFree
 rw [List.find?_eq_none]
 intro j hj
 simp [h j (by simpa using hj)]
theorem can_at {C : Type} {R : Rul C} {q : Qm C} {i : Nat} {e : Ent C} (h : q.waits[i]? = some e) : canAt R q i = freeE R q e.o e.c (q.waits.take i) := by unfold canAt; rw [h]
theorem flat_delE {α : Type} {f : α → List Value} {z : Nat} (hf : ∀ a, (f a).length = z) (xs : List α) (i : Nat) : (xs.flatMap f).take (i * z) ++ (xs.flatMap f).drop ((i + 1) * z) = (xs.eraseIdx i).flatMap f := by
 rw [flat_take hf, flat_drop hf, List.eraseIdx_eq_take_drop_succ, List.flatMap_append]
theorem giveL_len {C : Type} {R : Rul C} (l : List (Ent C)) (e : Ent C) : (giveL R l e).length ≤ l.length + 1 := by
 unfold giveL
 split <;> simp
theorem infoInt : (Tryz.prog.info? 3).map (fun i => (i.zero, i.size, i.bytes)) = some (some (.int .i64 0), 1, 8) := by kernel_rfl
abbrev intsP (v : Value) (l : List Int) : HP := ownS 3 1 v l.length (l.map (Value.int .i64))
/-- how many wait, as a world tells it -/
def waitsIn (q : Nat) (w : World) : Nat := match w.cell? ⟨q, 5, none⟩ with
 | some (.slice _ n _) => n
 | _ => 0
theorem PredS.more {B : World} {D : PH} {l : List HP} {F : Nat} {caps : Array Value} {cs : List Value} {p : Bool} (h : PredS B D l F caps cs p) (Y : List HP) : PredS B D (Y ++ l) F caps cs p := fun W X hs => h W (X ++ Y) (by rw [List.append_assoc]; exact hs)
theorem Sat.rm2 {B w : World} {D : PH} {l : List HP} {A C E : HP} (hs : Sat B D w (A :: C :: E :: l)) : Sat B D w (A :: C :: l) := hs.rot.rot.drop
theorem two_new {B w : World} {D : PH} {l : List HP} (hs : Sat B D w l) (c1 c2 : Array Value) (t1 t2 : TypeId) : ∃ W, W = (w.alloc (.cells c1 t1)).alloc (.cells c2 t2) ∧ Sat B D W (blk w.heap.size c1 t1 :: blk (w.heap.size + 1) c2 t2 :: l) := by
 have h := ((hs.alloc c1 t1).alloc c2 t2)
 rw [World.size_alloc] at h
 exact ⟨_, rfl, h.swap⟩
end Go.Proofs.YtgljdkjepdknnaaGreatDoor
