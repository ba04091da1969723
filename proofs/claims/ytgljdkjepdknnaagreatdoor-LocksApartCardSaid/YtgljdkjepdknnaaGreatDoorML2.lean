/- Joined texts: A queue as data: who holds what, who waits; what asking, moving, dropping, leaving come to; what they keep to. Predicates, modes and claims as data. Function values that are asked of elements; places. (printed by genq.py) -/
import Derived.Test.YtgljdkjepdknnaaGreatDoorML1
import Derived.Shelf.Abstract
import Derived.Deep.Cut
import Derived.Deep.CutBlock
namespace Go.Proofs.YtgljdkjepdknnaaGreatDoor
set_option linter.unusedSimpArgs false
structure Ent (C : Type) where
 o : Int
 c : C
 more : Bool
structure Rul (C : Type) where
 same : C → C → Bool
 conf : C → C → Bool
 cov : C → C → Bool
 join : C → C → C
structure Qm (C : Type) where
 held : List (Ent C)
 waits : List (Ent C)
section
variable {C : Type} (R : Rul C)
def cH (o : Int) (c : C) (e : Ent C) : Bool := decide (e.o = o) && R.same e.c c
def cM (l : List (Ent C)) (o : Int) (c : C) : Option Nat := l.findIdx? (cH R o c)
def ofE (o : Int) (e : Ent C) : Bool := decide (e.o = o)
def bJ (l : List (Ent C)) (o : Int) : Option Nat := l.findIdx? (ofE o)
def bd (o : Int) (c : C) (x : Ent C) : Bool := decide (x.o ≠ o) && R.conf x.c c
def d7 (q : Qm C) (o : Int) (c : C) (ahead : List (Ent C)) : Bool := !(q.held.any (bd R o c)) && !(ahead.any (bd R o c))
def Ent.less (e : Ent C) : Ent C := ⟨e.o, e.c, false⟩
def cy (l : List (Ent C)) (e : Ent C) : List (Ent C) := match cM R l e.o e.c with
 | some k => l.set k e.less
 | none => l ++ [e.less]
def cP (q : Qm C) (e : Ent C) : Qm C := ⟨cy R q.held e, q.waits⟩
def cA (l : List (Ent C)) : Nat := (l.takeWhile (fun e => e.more)).length
def dj (q : Qm C) (o : Int) (c : C) : Option (Ent C × Nat) := match cM R q.held o c with
 | none => some (⟨o, c, false⟩, q.waits.length)
 | some k => match q.held[k]? with
  | none => none
  | some h => if R.cov h.c c then none else some (⟨o, R.join h.c c, true⟩, cA q.waits)
def bj (q : Qm C) (o : Int) (c : C) (wait : Bool) : Qm C × Bool :=
 if (bJ q.waits o).isSome then (q, false) else
 match dj R q o c with
 | none => (q, true)
 | some (e, at_) => if d7 R q o e.c (q.waits.take at_) then (cP R q e, true) else if wait then (⟨q.held, q.waits.take at_ ++ [e] ++ q.waits.drop at_⟩, false) else (q, false)
def eU (q : Qm C) (i : Nat) : Bool := match q.waits[i]? with
 | some e => d7 R q e.o e.c (q.waits.take i)
 | none => false
def bA (q : Qm C) : Option Nat := (List.range q.waits.length).find? (eU R q)
def fp : Nat → Qm C → Qm C × List Int
 | 0, q => (q, [])
 | n + 1, q => match bA R q with
  | none => (q, [])
  | some i => match q.waits[i]? with
   | none => (q, [])
   | some e => let x := fp n (cP R ⟨q.held, q.waits.eraseIdx i⟩ e); (x.1, e.o :: x.2)
def bS (q : Qm C) : Qm C × List Int := fp R q.waits.length q
def aY (q : Qm C) (gone : Ent C → Bool) : Qm C × List Int := bS R ⟨q.held.filter (fun e => !gone e), q.waits⟩
def bu (q : Qm C) (o : Int) : Qm C × List Int := bS R ⟨q.held, q.waits.filter (fun e => !ofE o e)⟩
def aN (q : Qm C) (o : Int) : List C := (q.held.filter (ofE o)).map (fun e => e.c)
def db (q : Qm C) (o : Int) : List Int := match bJ q.waits o with
 | none => []
 | some k => match q.waits[k]? with
  | none => []
  | some e => ((q.held ++ q.waits.take k).filter (bd R o e.c)).map (fun e => e.o)
end
section
variable {C : Type} {R : Rul C}
structure QOk (q : Qm C) : Prop where
 mores : q.waits.Pairwise (fun a b => b.more = true → a.more = true)
 once : q.waits.Pairwise (fun a b => a.o ≠ b.o)
theorem r8 {l : List (Ent C)} (h : l.Pairwise (fun a b => b.more = true → a.more = true)) : l.takeWhile (fun e => e.more) = l.filter (fun e => e.more) := by
 induction l with
 | nil => rfl
 | cons x l ih =>
  obtain ⟨h1, h2⟩ := List.pairwise_cons.1 h
  cases hx : x.more
  ·rw [List.takeWhile_cons_of_neg (by simp [hx]), List.filter_cons_of_neg (by simp [hx])]
   symm
   refine List.filter_eq_nil_iff.2 (fun a ha => ?_)
   intro hm
   have := h1 a ha hm
   rw [hx] at this
   cases this
  ·rw [List.takeWhile_cons_of_pos (by simp [hx]), List.filter_cons_of_pos (by simp [hx]), ih h2]
theorem ke (l : List (Ent C)) : l.take (cA l) = l.takeWhile (fun e => e.more) := by
 unfold cA
 induction l with
 | nil => rfl
 | cons x l ih =>
  cases hx : x.more
  ·rw [List.takeWhile_cons_of_neg (by simp [hx])]; rfl
  ·rw [List.takeWhile_cons_of_pos (by simp [hx]), List.length_cons, List.take_succ_cons, ih]
theorem fX (l : List (Ent C)) : cA l ≤ l.length := by
 unfold cA
 exact (List.takeWhile_sublist _).length_le
theorem mK {l : List (Ent C)} {e : Ent C} (h : e ∈ l.take (cA l)) : e.more = true := by
 rw [ke] at h
 simpa using List.all_eq_true.1 (List.all_takeWhile (l := l) (p := fun e => e.more)) e h
theorem eQ {l : List (Ent C)} {o : Int} (h : (bJ l o).isSome = false) : ∀ e ∈ l, e.o ≠ o := by
 unfold bJ at h
 intro e he ho
 have h0 : l.findIdx? (ofE o) = none := by simpa using h
 have := List.findIdx?_eq_none_iff.1 h0 e he
 unfold ofE at this
 simp [ho] at this
theorem fx {q : Qm C} {o : Int} {c : C} {e : Ent C} {i : Nat} (h : dj R q o c = some (e, i)) : e.o = o ∧ i ≤ q.waits.length ∧ ((e.more = false ∧ i = q.waits.length ∧ e.c = c ∧ cM R q.held o c = none) ∨ (e.more = true ∧ i = cA q.waits ∧ ∃ k x, cM R q.held o c = some k ∧ q.held[k]? = some x ∧ R.cov x.c c = false ∧ e.c = R.join x.c c)) := by
 unfold dj at h
 split at h
 ·rename_i h0
  cases h
  exact ⟨rfl, Nat.le_refl _, .inl ⟨rfl, rfl, rfl, h0⟩⟩
 ·rename_i k hk
  split at h
  ·cases h
  ·rename_i x hx
   split at h
   ·cases h
   ·rename_i hc
    cases h
    exact ⟨rfl, fX _, .inr ⟨rfl, rfl, k, x, hk, hx, by simpa using hc, rfl⟩⟩
theorem ub {q : Qm C} (h : QOk q) (o : Int) (c : C) (b : Bool) : QOk (bj R q o c b).1 := by
 unfold bj
 split
 ·exact h
 ·rename_i hw
  split
  ·exact h
  ·rename_i e i he
   obtain ⟨ho, hi, hm⟩ := fx he
   split
   ·exact ⟨h.mores, h.once⟩
   ·split
    ·have hne := eQ (o := o) (l := q.waits) (by simpa using hw)
     have hsub : (q.waits.take i ++ q.waits.drop i) = q.waits := List.take_append_drop i _
     refine ⟨?_, ?_⟩
     ·show (q.waits.take i ++ [e] ++ q.waits.drop i).Pairwise _
      have hp := h.mores
      rw [← hsub, List.pairwise_append] at hp
      obtain ⟨p1, p2, p3⟩ := hp
      rw [List.append_assoc, List.pairwise_append]
      refine ⟨p1, List.pairwise_cons.2 ⟨fun a ha hm' => ?_, p2⟩, fun a ha b hb hm' => ?_⟩
      ·rcases hm with ⟨_, rfl, _⟩ | ⟨hm, _⟩
       ·rw [List.drop_length] at ha; cases ha
       ·exact hm
      ·rcases List.mem_cons.1 hb with rfl | hb
       ·rcases hm with ⟨hm, _⟩ | ⟨_, rfl, _⟩
        ·rw [hm] at hm'; cases hm'
        ·exact mK ha
       ·exact p3 a ha b hb hm'
     ·show (q.waits.take i ++ [e] ++ q.waits.drop i).Pairwise _
      have hp := h.once
      rw [← hsub, List.pairwise_append] at hp
      obtain ⟨p1, p2, p3⟩ := hp
      rw [List.append_assoc, List.pairwise_append]
      refine ⟨p1, List.pairwise_cons.2 ⟨fun a ha => ?_, p2⟩, fun a ha b hb => ?_⟩
      ·rw [ho]; exact (hne a (List.mem_of_mem_drop ha)).symm
      ·rcases List.mem_cons.1 hb with rfl | hb
       ·rw [ho]; exact hne a (List.mem_of_mem_take ha)
       ·exact p3 a ha b hb
    ·exact h
theorem QOk.sub {q : Qm C} (h : QOk q) {l m : List (Ent C)} (hs : l.Sublist q.waits) : QOk ⟨m, l⟩ := ⟨h.mores.sublist hs, h.once.sublist hs⟩
theorem ez {n : Nat} {q : Qm C} {i : Nat} {e : Ent C} (h : bA R q = some i) (he : q.waits[i]? = some e) : fp R (n + 1) q = ((fp R n (cP R ⟨q.held, q.waits.eraseIdx i⟩ e)).1, e.o :: (fp R n (cP R ⟨q.held, q.waits.eraseIdx i⟩ e)).2) := by
 conv => lhs; unfold fp
 simp only [h, he]
theorem dI {n : Nat} {q : Qm C} (h : bA R q = none) : fp R n q = (q, []) := by
 cases n with
 | zero => rfl
 | succ n => unfold fp; simp only [h]
theorem em {q : Qm C} {i : Nat} (h : bA R q = some i) : ∃ e, q.waits[i]? = some e ∧ d7 R q e.o e.c (q.waits.take i) = true ∧ i < q.waits.length := by
 unfold bA at h
 have h1 := List.find?_some h
 have h2 := List.mem_of_find?_eq_some h
 unfold eU at h1
 split at h1
 ·rename_i e he
  exact ⟨e, he, h1, by simpa using h2⟩
 ·cases h1
theorem dv {P : Qm C → Prop} (step : ∀ (q : Qm C) (i : Nat) (e : Ent C), P q → bA R q = some i → q.waits[i]? = some e → P (cP R ⟨q.held, q.waits.eraseIdx i⟩ e)) : ∀ (n : Nat) (q : Qm C), P q → P (fp R n q).1
 | 0, q, h => h
 | n + 1, q, h => by
  cases hf : bA R q with
  | none => rw [dI hf]; exact h
  | some i =>
   obtain ⟨e, he, _, _⟩ := em hf
   rw [ez hf he]
   exact dv step n _ (step q i e h hf he)
theorem ph {q : Qm C} (h : QOk q) : QOk (bS R q).1 :=
 dv (P := QOk) (fun q _ _ h _ _ => QOk.sub (q := q) h (List.eraseIdx_sublist _ _)) _ _ h
theorem drop_ok {q : Qm C} (h : QOk q) (g : Ent C → Bool) : QOk (aY R q g).1 := ph (QOk.sub h (List.Sublist.refl _))
theorem tE {q : Qm C} (h : QOk q) (o : Int) : QOk (bu R q o).1 := ph (QOk.sub h List.filter_sublist)
theorem mx : ∀ (n : Nat) (q : Qm C), (fp R n q).1.waits.length + (fp R n q).2.length = q.waits.length
 | 0, q => rfl
 | n + 1, q => by
  cases hf : bA R q with
  | none => rw [dI hf]; rfl
  | some i =>
   obtain ⟨e, he, _, hlt⟩ := em hf
   rw [ez hf he]
   have := mx n (cP R ⟨q.held, q.waits.eraseIdx i⟩ e)
   have h2 : (cP R ⟨q.held, q.waits.eraseIdx i⟩ e).waits.length = q.waits.length - 1 := by
    show (q.waits.eraseIdx i).length = _
    rw [List.length_eraseIdx_of_lt hlt]
   rw [h2] at this
   simp only [List.length_cons]
   omega
theorem ko : ∀ (n : Nat) (q : Qm C), q.waits.length ≤ n → bA R (fp R n q).1 = none
 | 0, q, h => by
  have : q.waits = [] := List.eq_nil_of_length_eq_zero (by omega)
  show bA R q = none
  unfold bA
  rw [this]
  rfl
 | n + 1, q, h => by
  cases hf : bA R q with
  | none => rw [dI hf]; exact hf
  | some i =>
   obtain ⟨e, he, _, hlt⟩ := em hf
   rw [ez hf he]
   refine ko n _ ?_
   show (q.waits.eraseIdx i).length ≤ n
   rw [List.length_eraseIdx_of_lt hlt]
   omega
theorem pg (q : Qm C) : bA R (bS R q).1 = none := ko _ _ (Nat.le_refl _)
theorem ll : ∀ (n : Nat) (q : Qm C), q.waits.length ≤ n → fp R n q = bS R q := by
 intro n
 induction n with
 | zero =>
  intro q h
  have : q.waits.length = 0 := by omega
  unfold bS
  rw [this]
 | succ n ih =>
  intro q h
  by_cases hq : q.waits.length = n + 1
  ·unfold bS; rw [hq]
  ·have h1 := ih q (by omega)
   rw [← h1]
   clear ih h1
   have : ∀ (n : Nat) (q : Qm C), q.waits.length ≤ n → fp R (n + 1) q = fp R n q := by
    intro n
    induction n with
    | zero =>
     intro q h
     have h0 : q.waits = [] := List.eq_nil_of_length_eq_zero (by omega)
     have : bA R q = none := by unfold bA; rw [h0]; rfl
     rw [dI this, dI this]
    | succ n ih =>
     intro q h
     cases hf : bA R q with
     | none => rw [dI hf, dI hf]
     | some i =>
      obtain ⟨e, he, _, hlt⟩ := em hf
      rw [ez hf he, ez hf he, ih _ (by show (q.waits.eraseIdx i).length ≤ n; rw [List.length_eraseIdx_of_lt hlt]; omega)]
   exact this n q (by omega)
theorem iQ {q : Qm C} {i : Nat} {e : Ent C} (h : bA R q = some i) (he : q.waits[i]? = some e) : bS R q = ((bS R (cP R ⟨q.held, q.waits.eraseIdx i⟩ e)).1, e.o :: (bS R (cP R ⟨q.held, q.waits.eraseIdx i⟩ e)).2) := by
 have hlt := (List.getElem?_eq_some_iff.1 he).1
 have hl : (cP R ⟨q.held, q.waits.eraseIdx i⟩ e).waits.length = q.waits.length - 1 := by
  show (q.waits.eraseIdx i).length = _
  rw [List.length_eraseIdx_of_lt hlt]
 rw [← ll q.waits.length q (Nat.le_refl _)]
 obtain ⟨m, hm⟩ : ∃ m, q.waits.length = m + 1 := ⟨q.waits.length - 1, by omega⟩
 rw [hm, ez h he, ll m _ (by omega)]
theorem iR {q : Qm C} (h : bA R q = none) : bS R q = (q, []) := dI h
end
section
variable {C : Type} {R : Rul C}
theorem fS {l : List (Ent C)} {e x : Ent C} (h : x ∈ cy R l e) : x ∈ l ∨ x = e.less := by
 unfold cy at h
 split at h
 ·exact List.mem_or_eq_of_mem_set h
 ·simpa using h
def Apart (R : Rul C) (l : List (Ent C)) : Prop := ∀ x ∈ l, ∀ y ∈ l, x.o ≠ y.o → R.conf x.c y.c = false
theorem lB {q : Qm C} (sym : ∀ a b, R.conf a b = R.conf b a) {e : Ent C} {ah : List (Ent C)} (h : Apart R q.held) (hf : d7 R q e.o e.c ah = true) : Apart R (cy R q.held e) := by
 have h1 : ∀ x ∈ q.held, x.o ≠ e.o → R.conf x.c e.c = false := by
  intro x hx ho
  unfold d7 at hf
  simp only [Bool.and_eq_true, Bool.not_eq_true', List.any_eq_false] at hf
  have := hf.1 x hx
  unfold bd at this
  simpa [ho] using this
 intro x hx y hy ho
 rcases fS hx with hx | rfl <;> rcases fS hy with hy | rfl
 ·exact h x hx y hy ho
 ·exact h1 x hx ho
 ·rw [sym]; exact h1 y hy (Ne.symm ho)
 ·exact absurd rfl ho
theorem sq {q : Qm C} (sym : ∀ a b, R.conf a b = R.conf b a) (h : Apart R q.held) (o : Int) (c : C) (b : Bool) : Apart R (bj R q o c b).1.held := by
 unfold bj
 split
 ·exact h
 ·split
  ·exact h
  ·rename_i e i he
   obtain ⟨ho, _, _⟩ := fx he
   split
   ·rename_i hf
    exact lB sym h (by rw [ho]; exact hf)
   ·split <;> exact h
theorem kp {q : Qm C} (sym : ∀ a b, R.conf a b = R.conf b a) (h : Apart R q.held) : Apart R (bS R q).1.held :=
 dv (P := fun q => Apart R q.held) (fun q i e h hf he => by
  obtain ⟨e', he', hfr, _⟩ := em hf
  rw [he] at he'
  cases he'
  exact lB (q := q) sym h hfr) _ _ h
theorem Apart.sub {l m : List (Ent C)} (h : Apart R l) (hs : ∀ x ∈ m, x ∈ l) : Apart R m := fun x hx y hy => h x (hs x hx) y (hs y hy)
theorem pV {q : Qm C} (sym : ∀ a b, R.conf a b = R.conf b a) (h : Apart R q.held) (g : Ent C → Bool) : Apart R (aY R q g).1.held := kp sym (h.sub (fun _ hx => (List.mem_filter.1 hx).1))
theorem oh {q : Qm C} (sym : ∀ a b, R.conf a b = R.conf b a) (h : Apart R q.held) (o : Int) : Apart R (bu R q o).1.held := kp sym h
theorem mF {q : Qm C} {o : Int} {c : C} (h : c ∈ aN q o) : ∃ e ∈ q.held, e.o = o ∧ e.c = c := by
 unfold aN at h
 obtain ⟨e, he, rfl⟩ := List.mem_map.1 h
 obtain ⟨h1, h2⟩ := List.mem_filter.1 he
 exact ⟨e, h1, by simpa [ofE] using h2, rfl⟩
def AllE (P : Int → C → Prop) (q : Qm C) : Prop := (∀ e ∈ q.held, P e.o e.c) ∧ ∀ e ∈ q.waits, P e.o e.c
theorem nS {P : Int → C → Prop} {l : List (Ent C)} {e : Ent C} (h : ∀ x ∈ l, P x.o x.c) (he : P e.o e.c) : ∀ x ∈ cy R l e, P x.o x.c := by
 intro x hx
 rcases fS hx with hx | rfl
 ·exact h x hx
 ·exact he
theorem jR {P : Int → C → Prop} {q : Qm C} (h : AllE P q) : AllE P (bS R q).1 :=
 dv (P := AllE P) (fun _ _ e h _ he => ⟨nS h.1 (h.2 e (List.mem_of_getElem? he)), fun x hx => h.2 x (List.mem_of_mem_eraseIdx hx)⟩) _ _ h
theorem um {P : Int → C → Prop} {q : Qm C} (h : AllE P q) (g : Ent C → Bool) : AllE P (aY R q g).1 := jR ⟨fun x hx => h.1 x (List.mem_filter.1 hx).1, h.2⟩
theorem mL {P : Int → C → Prop} {q : Qm C} (h : AllE P q) (o : Int) : AllE P (bu R q o).1 := jR ⟨h.1, fun x hx => h.2 x (List.mem_filter.1 hx).1⟩
def kg (R : Rul C) (q : Qm C) : Prop := ∀ (i : Nat) (e : Ent C), q.waits[i]? = some e → d7 R q e.o e.c (q.waits.take i) = false
theorem rM {q : Qm C} : kg R q ↔ bA R q = none := by
 unfold bA kg
 rw [List.find?_eq_none]
 constructor
 ·intro h i hi
  unfold eU
  have hlt : i < q.waits.length := by simpa using hi
  rw [List.getElem?_eq_getElem hlt]
  have := h i _ (List.getElem?_eq_getElem hlt)
  simp [this]
 ·intro h i e he
  have hlt := (List.getElem?_eq_some_iff.1 he).1
  have := h i (by simpa using hlt)
  unfold eU at this
  rw [he] at this
  simpa using this
theorem dW {q : Qm C} {o : Int} {c : C} {ah : List (Ent C)} : d7 R q o c ah = false ↔ ∃ x, (x ∈ q.held ∨ x ∈ ah) ∧ x.o ≠ o ∧ R.conf x.c c = true := by
 unfold d7
 rw [Bool.and_eq_false_iff, Bool.not_eq_false', Bool.not_eq_false', List.any_eq_true, List.any_eq_true]
 unfold bd
 constructor
 ·rintro (⟨x, hx, h⟩ | ⟨x, hx, h⟩)
  ·exact ⟨x, .inl hx, by simpa using h⟩
  ·exact ⟨x, .inr hx, by simpa using h⟩
 ·rintro ⟨x, hx | hx, h⟩
  ·exact .inl ⟨x, hx, by simpa using h⟩
  ·exact .inr ⟨x, hx, by simpa using h⟩
theorem eG {l : List (Ent C)} {o : Int} {c : C} {k : Nat} (h : cM R l o c = some k) : ∃ x, l[k]? = some x ∧ x.o = o ∧ R.same x.c c = true ∧ k < l.length := by
 unfold cM at h
 obtain ⟨hlt, hk, _⟩ := List.findIdx?_eq_some_iff_getElem.1 h
 unfold cH at hk
 rw [Bool.and_eq_true, decide_eq_true_eq] at hk
 exact ⟨l[k], List.getElem?_eq_getElem hlt, hk.1, hk.2, hlt⟩
theorem oY {l : List (Ent C)} {e x : Ent C} (hx : x ∈ l) (hm : ∀ k y, cM R l e.o e.c = some k → l[k]? = some y → ∀ c, R.conf y.c c = true → R.conf e.c c = true) {o : Int} {c : C} (ho : x.o ≠ o) (hc : R.conf x.c c = true) : ∃ y ∈ cy R l e, y.o ≠ o ∧ R.conf y.c c = true := by
 unfold cy
 split
 ·rename_i k hk
  obtain ⟨y, hy, hyo, _, hlt⟩ := eG hk
  obtain ⟨i, hi, rfl⟩ := List.mem_iff_getElem.1 hx
  by_cases hik : i = k
  ·subst hik
   have hyx : l[i] = y := by rw [List.getElem?_eq_getElem hi] at hy; exact Option.some.inj hy
   refine ⟨e.less, ?_, ?_, ?_⟩
   ·exact List.mem_iff_getElem.2 ⟨i, by simpa using hi, by simp⟩
   ·show e.o ≠ o
    rw [← hyo, ← hyx]; exact ho
   ·exact hm i y hk hy c (by rw [← hyx]; exact hc)
  ·exact ⟨l[i], List.mem_iff_getElem.2 ⟨i, by simpa using hi, by rw [List.getElem_set_ne (Ne.symm hik)]⟩, ho, hc⟩
 ·exact ⟨x, List.mem_append.2 (.inl hx), ho, hc⟩
end
section
variable {C : Type} {R : Rul C}
structure RulOk (R : Rul C) (P : C → Prop) : Prop where
 sym : ∀ a b, R.conf a b = R.conf b a
 own : ∀ h c y, R.same h c = true → R.same y (R.join h c) = R.same y c
 keep : ∀ h c y, P h → P c → R.same h c = true → R.conf h y = true → R.conf (R.join h c) y = true
theorem qh {P : C → Prop} (hR : RulOk R P) {l : List (Ent C)} {o : Int} {h c : C} (hs : R.same h c = true) : cM R l o (R.join h c) = cM R l o c := by
 unfold cM
 have : cH R o (R.join h c) = cH R o c := funext fun e => by unfold cH; rw [hR.own h c e.c hs]
 rw [this]
theorem ins_get {α : Type} {l : List α} {at_ i : Nat} {e x : α} (ha : at_ ≤ l.length) (h : (l.take at_ ++ [e] ++ l.drop at_)[i]? = some x) :
  (i < at_ ∧ l[i]? = some x ∧ (l.take at_ ++ [e] ++ l.drop at_).take i = l.take i) ∨ (i = at_ ∧ x = e ∧ (l.take at_ ++ [e] ++ l.drop at_).take i = l.take at_) ∨ (∃ j, i = j + 1 ∧ at_ ≤ j ∧ l[j]? = some x ∧ ∀ y ∈ l.take j, y ∈ (l.take at_ ++ [e] ++ l.drop at_).take i) := by
 have hl : (l.take at_).length = at_ := by rw [List.length_take]; omega
 rcases Nat.lt_trichotomy i at_ with hi | hi | hi
 ·left
  refine ⟨hi, ?_, ?_⟩
  ·rw [List.append_assoc, List.getElem?_append_left (by omega), List.getElem?_take, if_pos hi] at h
   exact h
  ·rw [List.append_assoc, List.take_append_of_le_length (by omega), List.take_take, Nat.min_eq_left (by omega)]
 ·right; left
  subst hi
  refine ⟨rfl, ?_, ?_⟩
  ·rw [List.append_assoc, List.getElem?_append_right (by omega), hl] at h
   simpa using h.symm
  ·rw [List.append_assoc, List.take_append_of_le_length (by omega), List.take_of_length_le (by omega)]
 ·right; right
  obtain ⟨j, rfl⟩ : ∃ j, i = j + 1 := ⟨i - 1, by omega⟩
  refine ⟨j, rfl, by omega, ?_, ?_⟩
  ·rw [List.append_assoc, List.getElem?_append_right (by omega), hl] at h
   have e1 : j + 1 - at_ = (j - at_) + 1 := by omega
   rw [e1] at h
   simp only [List.cons_append, List.nil_append, List.getElem?_cons_succ, List.getElem?_drop] at h
   rw [show at_ + (j - at_) = j by omega] at h
   exact h
  ·intro y hy
   rw [List.append_assoc, List.take_append, hl, List.take_of_length_le (by omega)]
   have e1 : j + 1 - at_ = (j - at_) + 1 := by omega
   rw [e1]
   have hj : l.take j = l.take at_ ++ (l.drop at_).take (j - at_) := by
    have : j = at_ + (j - at_) := by omega
    conv => lhs; rw [this]
    rw [List.take_add]
   rw [hj] at hy
   rcases List.mem_append.1 hy with hy | hy
   ·exact List.mem_append.2 (.inl hy)
   ·exact List.mem_append.2 (.inr (by simp [hy]))
theorem sI {P : C → Prop} (hR : RulOk R P) {q : Qm C} (h : kg R q) (hP : AllE (fun _ => P) q) (o : Int) (c : C) (b : Bool) (hc : P c) : kg R (bj R q o c b).1 := by
 unfold bj
 split
 ·exact h
 ·split
  ·exact h
  ·rename_i e i he
   obtain ⟨ho, hi, hm⟩ := fx he
   split
   ·rename_i hf
    intro j x hx
    refine dW.2 ?_
    obtain ⟨y, hy, hyo, hyc⟩ := dW.1 (h j x hx)
    rcases hy with hy | hy
    ·obtain ⟨z, hz, hzo, hzc⟩ := oY (R := R) (e := e) hy (fun k y0 hk hy0 c0 hc0 => by
      rcases hm with ⟨_, _, hec, hn⟩ | ⟨_, _, k0, x0, hk0, hx0, _, hec⟩
      ·rw [ho, hec, hn] at hk; cases hk
      ·obtain ⟨x1, hx1, _, hs, _⟩ := eG hk0
       rw [hx0] at hx1
       obtain rfl := Option.some.inj hx1
       rw [ho, hec, qh hR hs, hk0] at hk
       cases hk
       rw [hx0] at hy0
       obtain rfl := Option.some.inj hy0
       rw [hec]
       exact hR.keep _ _ _ (hP.1 _ (List.mem_of_getElem? hx0)) hc hs hc0) hyo hyc
     exact ⟨z, .inl hz, hzo, hzc⟩
    ·exact ⟨y, .inr hy, hyo, hyc⟩
   ·rename_i hf
    split
    ·intro j x hx
     refine dW.2 ?_
     rcases ins_get hi hx with ⟨_, hj, ht⟩ | ⟨rfl, rfl, ht⟩ | ⟨k, rfl, _, hj, ht⟩
     ·obtain ⟨y, hy, hyo, hyc⟩ := dW.1 (h j x hj)
      exact ⟨y, by rw [ht]; exact hy, hyo, hyc⟩
     ·obtain ⟨y, hy, hyo, hyc⟩ := dW.1 (by simpa using hf : d7 R q o x.c (q.waits.take j) = false)
      exact ⟨y, by rw [ht]; exact hy, by rw [ho]; exact hyo, hyc⟩
     ·obtain ⟨y, hy, hyo, hyc⟩ := dW.1 (h k x hj)
      exact ⟨y, hy.imp (fun h => h) (ht y), hyo, hyc⟩
    ·exact h
theorem kl (q : Qm C) : kg R (bS R q).1 := rM.2 (pg q)
theorem ey {l : List (Ent C)} {o : Int} {k : Nat} (h : bJ l o = some k) : ∃ e, l[k]? = some e ∧ e.o = o := by
 unfold bJ at h
 obtain ⟨hlt, hk, _⟩ := List.findIdx?_eq_some_iff_getElem.1 h
 exact ⟨l[k], List.getElem?_eq_getElem hlt, by simpa [ofE] using hk⟩
theorem nY {q : Qm C} (h : kg R q) (o : Int) : db R q o ≠ [] ↔ (bJ q.waits o).isSome = true := by
 unfold db
 split
 ·rename_i hn
  simp [hn]
 ·rename_i k hk
  obtain ⟨e, he, ho⟩ := ey hk
  obtain ⟨x, hx, hxo, hxc⟩ := dW.1 (h k e he)
  have : x ∈ (q.held ++ q.waits.take k).filter (bd R o e.c) := List.mem_filter.2 ⟨List.mem_append.2 hx, by unfold bd; rw [ho] at hxo; simp [hxo, hxc]⟩
  refine iff_of_true ?_ (by rw [hk]; rfl)
  rw [he]
  dsimp only
  intro h0
  rw [List.map_eq_nil_iff] at h0
  rw [h0] at this
  cases this
theorem qK {q : Qm C} {o : Int} : ∀ e ∈ (bu R q o).1.waits, e.o ≠ o := by
 exact dv (P := fun q => ∀ e ∈ q.waits, e.o ≠ o) (fun _ _ _ h _ _ x hx => h x (List.mem_of_mem_eraseIdx hx)) _ _ (fun e he => by simpa [ofE] using (List.mem_filter.1 he).2)
theorem rO (q : Qm C) : (bS R q).1.waits.Sublist q.waits :=
 dv (P := fun p => p.waits.Sublist q.waits) (fun _ _ _ h _ _ => (List.eraseIdx_sublist _ _).trans h) _ _ (List.Sublist.refl _)
theorem mE (q : Qm C) : (bS R q).1.waits.length + (bS R q).2.length = q.waits.length := mx _ _
end
section
variable {C : Type} {R : Rul C}
abbrev lN (l : List Int) : Prop := l.Pairwise (· < ·)
theorem rj : ∀ {a b : List Int}, lN a → lN b → (∀ x, x ∈ a ↔ x ∈ b) → a = b
 | [], [], _, _, _ => rfl
 | [], y :: b, _, _, h => by have := (h y).2 (by simp); cases this
 | x :: a, [], _, _, h => by have := (h x).1 (by simp); cases this
 | x :: a, y :: b, ha, hb, h => by
  obtain ⟨a1, a2⟩ := List.pairwise_cons.1 ha
  obtain ⟨b1, b2⟩ := List.pairwise_cons.1 hb
  have hxy : x = y := by
   rcases List.mem_cons.1 ((h x).1 (by simp)) with h1 | h1
   ·exact h1
   ·rcases List.mem_cons.1 ((h y).2 (by simp)) with h2 | h2
    ·exact h2.symm
    ·have := a1 y h2
     have := b1 x h1
     omega
  subst hxy
  congr 1
  refine rj a2 b2 (fun z => ?_)
  constructor
  ·intro hz
   rcases List.mem_cons.1 ((h z).1 (List.mem_cons_of_mem _ hz)) with h1 | h1
   ·have := a1 z hz; omega
   ·exact h1
  ·intro hz
   rcases List.mem_cons.1 ((h z).2 (List.mem_cons_of_mem _ hz)) with h1 | h1
   ·have := b1 z hz; omega
   ·exact h1
def eW (l : List Int) (n : Int) : List Int := if n ∈ l then l else l.takeWhile (fun x => decide (x < n)) ++ n :: l.dropWhile (fun x => decide (x < n))
theorem uJ (l : List Int) (n x : Int) : x ∈ eW l n ↔ x ∈ l ∨ x = n := by
 unfold eW
 split
 ·rename_i h
  constructor
  ·exact .inl
  ·rintro (h1 | rfl)
   ·exact h1
   ·exact h
 ·conv => rhs; lhs; rw [← List.takeWhile_append_dropWhile (p := fun x => decide (x < n)) (l := l)]
  simp only [List.mem_append, List.mem_cons]
  constructor
  ·rintro (h | h | h)
   ·exact .inl (.inl h)
   ·exact .inr h
   ·exact .inl (.inr h)
  ·rintro ((h | h) | h)
   ·exact .inl h
   ·exact .inr (.inr h)
   ·exact .inr (.inl h)
theorem rY {l : List Int} {n : Int} (h : lN l) : ∀ x ∈ l.dropWhile (fun x => decide (x < n)), n ≤ x := by
 induction l with
 | nil => intro x hx; cases hx
 | cons y l ih =>
  obtain ⟨h1, h2⟩ := List.pairwise_cons.1 h
  intro x hx
  by_cases hy : y < n
  ·rw [List.dropWhile_cons_of_pos (by simpa using hy)] at hx
   exact ih h2 x hx
  ·rw [List.dropWhile_cons_of_neg (by simpa using hy)] at hx
   rcases List.mem_cons.1 hx with rfl | hx
   ·omega
   ·have := h1 x hx; omega
theorem sK {l : List Int} (n : Int) (h : lN l) : lN (eW l n) := by
 unfold eW
 split
 ·exact h
 ·rename_i hn
  have hsp := h
  rw [← List.takeWhile_append_dropWhile (p := fun x => decide (x < n)) (l := l)] at hsp
  obtain ⟨p1, p2, p3⟩ := List.pairwise_append.1 hsp
  refine List.pairwise_append.2 ⟨p1, List.pairwise_cons.2 ⟨fun x hx => ?_, p2⟩, fun a ha b hb => ?_⟩
  ·have h1 := rY (n := n) h x hx
   have : x ≠ n := fun e => hn (by rw [← e]; exact (List.dropWhile_sublist _).subset hx)
   omega
  ·have h1 : a < n := by simpa using List.all_eq_true.1 (List.all_takeWhile (l := l) (p := fun x => decide (x < n))) a ha
   rcases List.mem_cons.1 hb with rfl | hb
   ·exact h1
   ·exact p3 a ha b hb
def cC (l : List Int) : List Int := l.foldl eW []
theorem mH (l : List Int) : ∀ (m : List Int), lN m → lN (l.foldl eW m) ∧ ∀ x, x ∈ l.foldl eW m ↔ x ∈ m ∨ x ∈ l := by
 induction l with
 | nil => intro m hm; exact ⟨hm, fun x => by simp⟩
 | cons y l ih =>
  intro m hm
  obtain ⟨h1, h2⟩ := ih (eW m y) (sK y hm)
  refine ⟨h1, fun x => ?_⟩
  show x ∈ l.foldl eW (eW m y) ↔ _
  rw [h2, uJ, List.mem_cons]
  constructor
  ·rintro ((h | h) | h)
   ·exact .inl h
   ·exact .inr (.inl h)
   ·exact .inr (.inr h)
  ·rintro (h | h | h)
   ·exact .inl (.inl h)
   ·exact .inl (.inr h)
   ·exact .inr h
theorem kr (l : List Int) : lN (cC l) := (mH l [] List.Pairwise.nil).1
theorem lP (l : List Int) (x : Int) : x ∈ cC l ↔ x ∈ l := by
 have := (mH l [] List.Pairwise.nil).2 x
 unfold cC
 rw [this]
 simp
theorem rQ {l m : List Int} (h : lN m) (hm : ∀ x, x ∈ m ↔ x ∈ l) : m = cC l := rj h (kr l) (fun x => by rw [hm, lP])
theorem putAll_nil {l : List Int} : cC l = [] ↔ l = [] := by
 constructor
 ·intro h
  cases l with
  | nil => rfl
  | cons x l => have := (lP (x :: l) x).2 (by simp); rw [h] at this; cases this
 ·rintro rfl; rfl
end
section
variable {C : Type} {R : Rul C}
theorem rN {q : Qm C} {P : Int → C → Prop} (h : AllE P q) (o : Int) : AllE (fun p c => P p c ∧ p ≠ o) (aY R (bu R q o).1 (ofE o)).1 := by
 have h1 := mL (R := R) h o
 refine jR ⟨fun x hx => ?_, fun x hx => ⟨h1.2 x hx, qK x hx⟩⟩
 obtain ⟨a, b⟩ := List.mem_filter.1 hx
 exact ⟨h1.1 x a, by simpa [ofE] using b⟩
theorem uj (q : Qm C) (g : Ent C → Bool) : (aY R q g).1.waits.length + (aY R q g).2.length = q.waits.length := mE _
theorem sY {q : Qm C} {o : Int} (h : ∀ e ∈ q.held, e.o ≠ o) : aN q o = [] := by
 unfold aN
 rw [List.filter_eq_nil_iff.2 (fun e he => by unfold ofE; simpa using h e he)]
 rfl
end
inductive PredT where
 | mk (op col : Int) (v w : Val) (l : List PredT)
def PredT.op : PredT → Int | .mk a _ _ _ _ => a
def PredT.col : PredT → Int | .mk _ a _ _ _ => a
def PredT.v : PredT → Val | .mk _ _ a _ _ => a
def PredT.w : PredT → Val | .mk _ _ _ a _ => a
def PredT.l : PredT → List PredT | .mk _ _ _ _ a => a
theorem PredT.ind {P : PredT → Prop} (h : ∀ op col v w l, (∀ q ∈ l, P q) → P (.mk op col v w l)) : ∀ p, P p
 | .mk op col v w l => h op col v w l (fun q _hq => PredT.ind h q)
termination_by p => SizeOf.sizeOf p
decreasing_by
 have := List.sizeOf_lt_of_mem _hq
 simp only [PredT.mk.sizeOf_spec]
 omega
def dN (op col : Int) (v w : Val) (r : List Val) : Bool :=
 if col < 0 ∨ (r.length : Int) ≤ col then false else
 let x := r.getD col.toNat default
 let c := dx x v
 if op = 3 then decide (c = 0) else if op = 4 then !decide (c = 0) else if op = 5 then decide (c < 0) else if op = 6 then decide (c ≤ 0) else if op = 7 then decide (0 < c) else if op = 8 then decide (0 ≤ c) else decide (0 ≤ c) && decide (dx x w ≤ 0)
mutual
def PredT.holds : PredT → List Val → Bool
 | .mk op col v w l, r =>
  if op = 1 then true else if 3 ≤ op ∧ op ≤ 9 then dN op col v w r else if op = 10 then !((PredT.holdsL l r).headD false) else if op = 11 then (PredT.holdsL l r).all id else if op = 12 then (PredT.holdsL l r).any id else false
def PredT.holdsL : List PredT → List Val → List Bool
 | [], _ => []
 | p :: l, r => p.holds r :: PredT.holdsL l r
end
theorem lL (r : List Val) : ∀ l : List PredT, PredT.holdsL l r = l.map (fun p => p.holds r)
 | [] => rfl
 | p :: l => by unfold PredT.holdsL; rw [lL r l]; rfl
theorem PredT.holds_eq (op col : Int) (v w : Val) (l : List PredT) (r : List Val) : (PredT.mk op col v w l).holds r =
  if op = 1 then true else if 3 ≤ op ∧ op ≤ 9 then dN op col v w r else if op = 10 then !((l.map (fun p => p.holds r)).headD false) else if op = 11 then l.all (fun p => p.holds r) else if op = 12 then l.any (fun p => p.holds r) else false := by
 conv => lhs; unfold PredT.holds
 simp only [lL, List.all_map, List.any_map]
 rfl
open Classical in
noncomputable def cl (p q : PredT) : Bool := decide (p = q)
theorem eI {p q : PredT} : cl p q = true ↔ p = q := by unfold cl; simp
theorem hI (p : PredT) : cl p p = true := eI.2 rfl
noncomputable def cU (l m : List PredT) : Bool := decide (l.length = m.length) && (l.zip m).all (fun x => cl x.1 x.2)
theorem dg : ∀ {l m : List PredT}, cU l m = true ↔ l = m
 | [], [] => by simp [cU]
 | [], _ :: _ => by simp [cU]
 | _ :: _, [] => by simp [cU]
 | p :: l, q :: m => by
  have := dg (l := l) (m := m)
  unfold cU at this ⊢
  simp only [List.length_cons, List.zip_cons_cons, List.all_cons, Bool.and_eq_true, decide_eq_true_eq, eI, List.cons.injEq, Nat.add_right_cancel_iff] at this ⊢
  rw [← this]
  constructor
  ·rintro ⟨a, b, c⟩; exact ⟨b, a, c⟩
  ·rintro ⟨a, b, c⟩; exact ⟨b, a, c⟩
theorem mz (a b : Int) (v w : Val) (l : List PredT) (a' b' : Int) (v' w' : Val) (l' : List PredT) : cl (.mk a b v w l) (.mk a' b' v' w' l') = (decide (a = a') && decide (b = b') && decide (v = v') && decide (w = w') && cU l l') := by
 rw [Bool.eq_iff_iff]
 simp only [eI, Bool.and_eq_true, decide_eq_true_eq, dg, PredT.mk.injEq]
 constructor
 ·rintro ⟨a, b, c, d, e⟩; exact ⟨⟨⟨⟨a, b⟩, c⟩, d⟩, e⟩
 ·rintro ⟨⟨⟨⟨a, b⟩, c⟩, d⟩, e⟩; exact ⟨a, b, c, d, e⟩
def bG (m : Int) : Bool := decide (0 ≤ m) && decide (m ≤ 6)
def agT : List Nat := [0, 64, 120, 84, 124, 116, 126]
def agM (m : Int) : Nat := agT.getD m.toNat 0
def cR (a b : Int) : Bool := bG a && bG b && ((agM a >>> b.toNat) &&& 1 == 0)
def aO (a b : Int) : Bool := bG a && bG b && (List.range 7).all (fun i => !(cR a i) || cR b i)
def fe (a b : Int) (best : Int) (m : Nat) : Int := if aO m a && aO m b && aO best m then (m : Int) else best
def dC (a b : Int) : Int := if bG a && bG b then (List.range 7).foldl (fe a b) 6 else 0
theorem bU {m : Int} (h : bG m = true) : m = 0 ∨ m = 1 ∨ m = 2 ∨ m = 3 ∨ m = 4 ∨ m = 5 ∨ m = 6 := by
 unfold bG at h
 simp only [Bool.and_eq_true, decide_eq_true_eq] at h
 omega
theorem rL (a b : Int) : cR a b = cR b a := by
 by_cases ha : bG a = true
 ·by_cases hb : bG b = true
  ·rcases bU ha with rfl | rfl | rfl | rfl | rfl | rfl | rfl <;> rcases bU hb with rfl | rfl | rfl | rfl | rfl | rfl | rfl <;> decide
  ·unfold cR; simp [hb]
 ·unfold cR; simp [ha]
theorem mt {a b x : Int} (ha : bG a = true) (hb : bG b = true) (h : cR a x = false) : cR (dC a b) x = false := by
 by_cases hx : bG x = true
 ·revert h
  rcases bU ha with rfl | rfl | rfl | rfl | rfl | rfl | rfl <;> rcases bU hb with rfl | rfl | rfl | rfl | rfl | rfl | rfl <;> rcases bU hx with rfl | rfl | rfl | rfl | rfl | rfl | rfl <;> decide
 ·unfold cR; simp [hx]
structure Clm where
 kind : Int
 table : Int
 mode : Int
 key : Val
 imgs : List (List Val)
 pred : PredT
noncomputable def cI (a b : Clm) : Bool := decide (a.kind = b.kind) && decide (a.table = b.table) && (if a.kind = 1 then true else if a.kind = 2 then decide (a.key = b.key) else if a.kind = 3 then cl a.pred b.pred else false)
def ci (p w : Clm) : Bool := decide (w.mode = 6) && w.imgs.any (fun r => decide (0 < r.length) && p.pred.holds r)
def gt (a b : Clm) : Bool := decide (a.table = b.table) &&
 (if a.kind = 1 ∧ b.kind = 1 then !cR a.mode b.mode else if a.kind = 2 ∧ b.kind = 2 then decide (a.key = b.key) && !cR a.mode b.mode else if a.kind = 3 ∧ b.kind = 2 then ci a b else if a.kind = 2 ∧ b.kind = 3 then ci b a else false)
def dt (l : List (List Val)) (r : List Val) : Bool := l.any (fun x => decide (x = r))
noncomputable def qr (a b : Clm) : Bool := cI a b && aO a.mode b.mode && b.imgs.all (fun r => dt a.imgs r)
def b7 (l m : List (List Val)) : List (List Val) := m.foldl (fun o r => if dt o r then o else o ++ [r]) l
noncomputable def dL (a b : Clm) : Clm := if cI a b then { a with mode := dC a.mode b.mode, imgs := b7 a.imgs b.imgs } else a
theorem fG (a b : Clm) : gt a b = gt b a := by
 unfold gt
 by_cases ht : a.table = b.table
 ·rw [rL b.mode a.mode]
  have hk : decide (a.key = b.key) = decide (b.key = a.key) := by rw [Bool.eq_iff_iff]; simp [eq_comm]
  rw [hk]
  simp only [ht, decide_true, Bool.true_and]
  by_cases h1 : a.kind = 1 <;> by_cases h2 : b.kind = 1 <;> by_cases h3 : a.kind = 2 <;> by_cases h4 : b.kind = 2 <;> by_cases h5 : a.kind = 3 <;> by_cases h6 : b.kind = 3 <;> simp_all
 ·simp [ht, Ne.symm ht]
theorem cL {a b : Clm} : cI a b = true ↔ a.kind = b.kind ∧ a.table = b.table ∧ (a.kind = 1 ∨ (a.kind = 2 ∧ a.key = b.key) ∨ (a.kind = 3 ∧ a.pred = b.pred)) := by
 unfold cI
 rw [Bool.and_eq_true, Bool.and_eq_true, decide_eq_true_eq, decide_eq_true_eq, and_assoc]
 refine and_congr_right (fun _ => and_congr_right (fun _ => ?_))
 by_cases h1 : a.kind = 1
 ·simp [h1]
 ·by_cases h2 : a.kind = 2
  ·simp [h2]
  ·by_cases h3 : a.kind = 3
   ·simp [h3, eI]
   ·simp [h1, h2, h3]
theorem ie (a b : Clm) : cI a b = cI b a := by
 rw [Bool.eq_iff_iff, cL, cL]
 constructor
 ·rintro ⟨h1, h2, h3⟩
  exact ⟨h1.symm, h2.symm, by rw [h1] at h3; rcases h3 with h | ⟨h, h'⟩ | ⟨h, h'⟩; exact .inl h; exact .inr (.inl ⟨h, h'.symm⟩); exact .inr (.inr ⟨h, h'.symm⟩)⟩
 ·rintro ⟨h1, h2, h3⟩
  exact ⟨h1.symm, h2.symm, by rw [h1] at h3; rcases h3 with h | ⟨h, h'⟩ | ⟨h, h'⟩; exact .inl h; exact .inr (.inl ⟨h, h'.symm⟩); exact .inr (.inr ⟨h, h'.symm⟩)⟩
theorem iF {a b c : Clm} (h : cI a b = true) : cI c a = cI c b := by
 obtain ⟨h1, h2, h3⟩ := cL.1 h
 rw [Bool.eq_iff_iff, cL, cL, ← h1, ← h2]
 refine and_congr_right (fun hk => and_congr_right (fun _ => ?_))
 rw [hk]
 rcases h3 with h | ⟨h, h'⟩ | ⟨h, h'⟩
 ·simp [h]
 ·simp [h, h']
 ·simp [h, h']
theorem je (h c y : Clm) (hs : cI h c = true) : cI y (dL h c) = cI y c := by
 rw [← iF hs]
 unfold dL
 rw [if_pos hs]
 rfl
theorem gX {l : List (List Val)} : ∀ {m : List (List Val)} {r : List Val}, r ∈ l → r ∈ b7 l m := by
 intro m
 unfold b7
 induction m generalizing l with
 | nil => intro r h; exact h
 | cons x m ih =>
  intro r h
  show r ∈ m.foldl _ _
  refine ih ?_
  dsimp only
  split
  ·exact h
  ·exact List.mem_append.2 (.inl h)
theorem joinM_x {a b : Int} (ha : a = 6) (hb : bG b = true) : dC a b = 6 := by
 subst ha
 rcases bU hb with rfl | rfl | rfl | rfl | rfl | rfl | rfl <;> decide
end Go.Proofs.YtgljdkjepdknnaaGreatDoor
namespace Go.Proofs.YtgljdkjepdknnaaGreatDoor
open Go.ChangeShapes Go.WideShapes Go.ChangeAt Go.RowKit
set_option maxRecDepth 100000
set_option linter.unusedSimpArgs false
def PredF (F : Nat) (caps : Array Value) (w : World) (cs : List Value) (p : Bool) : Prop := Enters Tryz.prog F ∧ ∀ W, Kept (fun _ => False) w W → Calls Tryz.prog F (#[.agg cs.toArray] ++ caps) W fun e W' => e = .returned (.bool p) ∧ Kept (fun _ => False) W W'
theorem PredF.kept {F : Nat} {caps : Array Value} {w w' : World} {cs : List Value} {p : Bool} (h : PredF F caps w cs p) (k : Kept (fun _ => False) w w') : PredF F caps w' cs p := ⟨h.1, fun W hW => h.2 W (k.trans hW (fun _ h => h.elim))⟩
def cz {α : Type} (p : α → Bool) (xs : List α) : Int := match xs.findIdx? p with
 | some k => (k : Int)
 | none => -1
theorem fk {α : Type} {p : α → Bool} {xs : List α} {j : Nat} {x : α} (h : ∀ y ∈ xs.take j, p y = false) (hx : xs[j]? = some x) (hp : p x = true) : cz p xs = j := by
 unfold cz
 have hlt := (List.getElem?_eq_some_iff.1 hx).1
 have : xs.findIdx? p = some j := by
  refine List.findIdx?_eq_some_iff_getElem.2 ⟨hlt, ?_, fun i hi => ?_⟩
  ·rw [List.getElem?_eq_getElem hlt] at hx
   rw [Option.some.inj hx]; exact hp
  ·have := h (xs[i]'(by omega)) (List.mem_take_iff_getElem.2 ⟨i, by omega, rfl⟩)
   simp [this]
 rw [this]
theorem dJ {α : Type} {p : α → Bool} {xs : List α} (h : ∀ y ∈ xs, p y = false) : cz p xs = -1 := by
 unfold cz
 rw [List.findIdx?_eq_none_iff.2 h]
theorem jy {α : Type} (p : α → Bool) (xs : List α) : decide (0 ≤ cz p xs) = xs.any p := by
 unfold cz
 cases h : xs.findIdx? p with
 | none =>
  have := List.findIdx?_eq_none_iff.1 h
  simp only
  symm
  rw [show decide ((0 : Int) ≤ -1) = false by decide]
  exact List.any_eq_false.2 (fun x hx => by simp [this x hx])
 | some k =>
  obtain ⟨hlt, hk, _⟩ := List.findIdx?_eq_some_iff_getElem.1 h
  simp only
  rw [show decide ((0 : Int) ≤ (k : Int)) = true by simp]
  symm
  exact List.any_eq_true.2 ⟨_, List.getElem_mem hlt, hk⟩
theorem cX {α : Type} {L : List α} {i : Nat} {p : α} {P : α → Prop} (h : ∀ x ∈ L.take i, P x) (hp : L[i]? = some p) (hP : P p) : ∀ x ∈ L.take (i + 1), P x := by
 intro x hx
 rw [List.take_add_one, hp] at hx
 rcases List.mem_append.1 hx with hx | hx
 ·exact h x hx
 ·simp at hx; subst hx; exact hP
theorem aF {α : Type} {f : α → List Value} {z : Nat} (hf : ∀ a, (f a).length = z) {w : World} {ao : Option Addr} {N cap j : Nat} {xs : List α} {x : α} (h : Rd w z (.slice ao N cap) N (xs.flatMap f)) (hx : xs[j]? = some x) (hl : xs.length = N) : ∃ g o, ao = some ⟨g, o, none⟩ ∧ w.rangeAt g (o + j * z) (f x) := by
 have hlt := (List.getElem?_eq_some_iff.1 hx).1
 rcases h.2.2 with ⟨_, _, hv, _, _, _, hc⟩
 cases hv
 rcases hc with h0 | ⟨g, o, hg, hcell⟩
 ·omega
 ·refine ⟨g, o, hg, fun i u hu => ?_⟩
  rw [Nat.add_assoc]
  exact hcell _ _ (bX hf xs j x hx i u hu)
section
variable {P : Program} {w : World} {o : Oper} {a : Act}
theorem ai {ops : Array Oper} {rest : List Oper} {Q : Exit → Act → World → Prop} (hgd : o.guard = none) (ty : TypeId) (x : Operand) (ho : o.op = .load ty x) (b i : Nat) (hx : a.eval x = .pointer (some ⟨b, i, none⟩)) (cs : List Value)
  (hl : (loadVar ty ⟨b, i, none⟩).run P w = .ok (.agg cs.toArray) w) (h : wpList P ops Q rest (a.put o.dst (.agg cs.toArray)) w) : wpList P ops Q (o :: rest) a w :=
 wpList_plain hgd fun _ hK => by
  unfold Oper.wp execOp
  simp only [ho, hx, Instr.loadAt, Instr.sureAddr, Sem.run_bind, Sem.run_pure, Result.andThen_ok, hl]
  exact hK _ _ h
theorem aj {K : Act → Prop} (ty : TypeId) (x : Operand) (ho : o.op = .load ty x) (b i : Nat) (hx : a.eval x = .pointer (some ⟨b, i, none⟩)) (cs : List Value)
  (hl : (loadVar ty ⟨b, i, none⟩).run P w = .ok (.agg cs.toArray) w) (h : K (a.put o.dst (.agg cs.toArray))) : o.still P a w K := by
 unfold Oper.still execOp
 simp only [ho, hx, Instr.loadAt, Instr.sureAddr, Sem.run_bind, Sem.run_pure, Result.andThen_ok, hl]
 rw [Oper.stillUpon_value]
 exact h
end
theorem ak {w : World} {b : Nat} {cs : List Value} {t : TypeId} {fr : Nat × Nat} (h : w.heap[b]? = some (.cells cs.toArray t fr)) : w.rangeAt b 0 cs := fun j v hv => by
 rw [cell_of_row w b (0 + j) cs.toArray t fr h, Nat.zero_add]
 simpa using hv
theorem nL (w : World) (z cs : Array Value) (t : TypeId) : (w.alloc (.cells z t)).setRow w.heap.size cs = w.alloc (.cells cs t) := by
 unfold World.setRow World.alloc
 congr 1
 apply Array.ext_getElem?
 intro k
 simp only [Array.getElem?_modify, Array.getElem?_push]
 by_cases hk : k = w.heap.size
 ·subst hk; simp
 ·simp [hk, Ne.symm hk]
section
variable {P : Program} {B w : World} {D : PH} {l : List HP} {ops : Array Oper} {rest : List Oper} {o : Oper} {a : Act} {Q : Exit → Act → World → Prop}
theorem ax (hgd : o.guard = none) (ty : TypeId) (x y : Operand) (ho : o.op = .store ty x y)
  (cells : List Value) (z : Array Value) (t : TypeId) (hx : a.eval x = .pointer (some ⟨w.heap.size, 0, none⟩)) (hy : a.eval y = .agg cells.toArray) (hi : (P.info? ty).map (·.size) = some cells.length)
  (hold : z.size = cells.length) (h1 : ∀ u ∈ cells, u.oneCell' = true)
  (h : wpList P ops Q rest (a.put o.dst undef) (w.alloc (.cells cells.toArray t))) : wpList P ops Q (o :: rest) a (w.alloc (.cells z t)) :=
 wpList_store_row hgd ty x y ho w.heap.size cells.toArray hx hy t z (aC w _) (by simpa using hi) (by simpa using hold) (by simpa [List.all_eq_true] using h1) (by rw [nL]; exact h)
theorem bm (hgd : o.guard = none) (ty : TypeId) (x y : Operand) (ho : o.op = .store ty x y) (e : TypeId) (g off : Nat) (hx : a.eval x = .pointer (some ⟨g, off, none⟩)) (cs : List Value) (hy : a.eval y = .agg cs.toArray) (cur : List Value) (hs : Sat B D w (blk g cur.toArray e :: l))
  (hi : (P.info? ty).map (·.size) = some cs.length) (hfit : off + cs.length ≤ cur.length) (h1 : ∀ u ∈ cs, u.oneCell' = true)
  (h : ∀ w', Sat B D w' (blk g (lay cur off cs).toArray e :: l) → wpList P ops Q rest (a.put o.dst undef) w') : wpList P ops Q (o :: rest) a w :=
 wpList_plain hgd fun _ hK => by
  have hst := run_storeCells_at P g off e cs 0 cur.toArray w hs.heap_blk (by simpa using hfit) h1
  simp only [Nat.add_zero] at hst
  have hsz : ∃ i, P.info? ty = some i ∧ i.size = cs.length := by
   cases hq : P.info? ty with
   | none => rw [hq] at hi; cases hi
   | some i => exact ⟨i, rfl, by rw [hq] at hi; simpa using hi⟩
  obtain ⟨i, hq, hsi⟩ := hsz
  have hrun : (storeVar ty ⟨g, off, none⟩ (.agg cs.toArray)).run P w = .ok () (w.setRow g (lay cur off cs).toArray) := by
   simp [storeVar, sizeOf, typeInfo, hq, hsi, Value.cells, hst, lay]
  unfold Oper.wp execOp
  simp only [ho, hx, hy, Instr.storeAt, Instr.sureAddr, Sem.run_bind, Sem.run_pure, Result.andThen_ok, hrun]
  exact hK _ _ (h _ (hs.setRow _))
theorem tY {α : Type} {f : α → List Value} {z : Nat} (hf : ∀ a, (f a).length = z) {xs : List α} {i : Nat} {x : α} (hi : i < xs.length) : ((xs.set i x).flatMap f) = lay (xs.flatMap f) (i * z) (f x) := by
 unfold lay
 rw [hf, cQ hf, show i * z + z = (i + 1) * z by rw [Nat.succ_mul], ge hf, List.set_eq_take_append_cons_drop, if_pos hi]
 simp
theorem tw {cur cs : List Value} {off n : Nat} (h : off + cs.length ≤ n) (hn : n ≤ cur.length) : (lay cur off cs).take n = lay (cur.take n) off cs := by
 unfold lay
 rw [List.append_assoc, List.take_append, List.take_append, List.length_take, List.take_take]
 rw [show min off cur.length = off by omega]
 rw [show min n off = off by omega, List.take_of_length_le (l := cs) (by omega)]
 rw [List.take_take, show min off n = off by omega, List.append_assoc]
 congr 2
 rw [List.drop_take]
 congr 1
 omega
theorem cF {α : Type} {f : α → List Value} {z : Nat} (hf : ∀ a, (f a).length = z) (hone : ∀ a, ∀ u ∈ f a, u.oneCell' = true) (hgd : o.guard = none) (ty : TypeId) (x y : Operand) (ho : o.op = .store ty x y) (e : TypeId) (g off i n cap : Nat) (hx : a.eval x = .pointer (some ⟨g, off, none⟩)) (hoff : off = i * z) (b : α) (hy : a.eval y = .agg (f b).toArray) (xs : List α)
  (hs : Sat B D w (aI e z (.slice (some ⟨g, 0, none⟩) n cap) n (xs.flatMap f) :: l)) (hi : (P.info? ty).map (·.size) = some z) (hin : i < n) (hn : xs.length = n)
  (h : ∀ w', Sat B D w' (aI e z (.slice (some ⟨g, 0, none⟩) n cap) n ((xs.set i b).flatMap f) :: l) → wpList P ops Q rest (a.put o.dst undef) w') : wpList P ops Q (o :: rest) a w := by
 subst hoff
 obtain ⟨cur, hb, h1, h2, h3, h4, h5, h6⟩ := hs.own_row
 have hle : i * z + z ≤ n * z := by rw [← Nat.succ_mul]; exact Nat.mul_le_mul_right _ hin
 have hnc : n * z ≤ cap * z := Nat.mul_le_mul_right _ h1
 refine bm hgd ty x y ho e g (i * z) hx (f b) hy cur hb (by rw [hf]; exact hi) (by rw [hf]; omega) (hone b) (fun w' hs' => h w' ?_)
 refine hs'.row_own h1 h2 (by rw [eM _ _ _ (by rw [hf]; omega)]; exact h3) ?_ (fun u hu => ?_)
 ·rw [tw (by rw [hf]; omega) (by omega), h4, tY hf (by omega)]
 ·obtain ⟨a', _, hu⟩ := List.mem_flatMap.1 hu
  exact hone a' u hu
end
theorem eO {α : Type} {ys : List α} {i : Nat} {x : α} (h : i < ys.length) : (ys.set i x).take (i + 1) = ys.take i ++ [x] := by
 rw [List.set_eq_take_append_cons_drop, if_pos h, List.take_append, List.take_of_length_le (by rw [List.length_take]; omega), List.length_take, Nat.min_eq_left (by omega), show i + 1 - i = 1 by omega]
 rfl
theorem nU : ∀ (cs : List Value) (k : Nat) (A : Array Value), k + cs.length ≤ A.size → ((cs.zipIdx k).foldl (fun (A : Array Value) (x : Value × Nat) => A.setIfInBounds (0 + x.2) x.1) A).toList = lay A.toList k cs
 | [], k, A, _ => by unfold lay; simp
 | c :: cs, k, A, h => by
  simp only [List.length_cons] at h
  rw [List.zipIdx_cons, List.foldl_cons, nU cs (k + 1) _ (by simp; omega)]
  unfold lay
  simp only [Nat.zero_add, Array.toList_setIfInBounds, List.length_cons]
  rw [eO (by simp; omega), List.drop_set, if_pos (by omega), show k + 1 + cs.length = k + (cs.length + 1) by omega]
  simp
theorem lW {P : Program} (w : World) (t e : TypeId) (i : TypeInfo) (z : Value) (cs : List Value) (ht : P.underlying t = some (.slice e)) (hi : P.info? e = some i) (hz : i.zero = some z) (hsize : i.size = cs.length) (hpos : 0 < cs.length) (hle : cs.length ≤ 1000) :
  (Instr.buildSlice t 1 #[(0, .agg cs.toArray)]).run P w = .ok (.slice (some ⟨w.heap.size, 0, none⟩) 1 1) (w.alloc (.cells cs.toArray e)) := by
 have hf : ∀ A : Array Value, A.size = cs.length → cs.zipIdx.foldl (fun (cs : Array Value) (x : Value × Nat) => cs.setIfInBounds x.2 x.1) A = cs.toArray := by
  intro A hA
  apply Array.toList_inj.1
  have := nU cs 0 A (by omega)
  simp only [Nat.zero_add] at this
  rw [this]
  unfold lay
  simp [hA]
 have hne : cs.length ≠ 0 := by omega
 have h24 : ¬ (16777216 < cs.length) := by omega
 simp [Instr.buildSlice, run_underlying ht, sizeOf, typeInfo, zeroValue, hi, hz, hsize, Instr.fill, Value.cells, newRow, hne, h24]
 congr 2
 exact hf _ (by simp)
theorem aD {P : Program} {ops : Array Oper} {rest : List Oper} {o : Oper} {a : Act} {w : World} {Q : Exit → Act → World → Prop} (hgd : o.guard = none) (t : TypeId) (x : Operand) (ho : o.op = .buildSlice t 1 #[(0, x)]) (e : TypeId) (i : TypeInfo) (z : Value) (cs : List Value) (hx : a.eval x = .agg cs.toArray) (ht : P.underlying t = some (.slice e)) (hi : P.info? e = some i) (hz : i.zero = some z) (hsize : i.size = cs.length) (hpos : 0 < cs.length) (hle : cs.length ≤ 1000)
  (h : wpList P ops Q rest (a.put o.dst (.slice (some ⟨w.heap.size, 0, none⟩) 1 1)) (w.alloc (.cells cs.toArray e))) : wpList P ops Q (o :: rest) a w :=
 wpList_plain hgd fun _ hK => by
  have hrun := lW w t e i z cs ht hi hz hsize hpos hle
  unfold Oper.wp execOp
  simp only [ho, List.map_toArray, List.map_cons, List.map_nil, hx, Sem.run_bind, Sem.run_pure, Result.andThen_ok, hrun]
  exact hK _ _ h
@[go_sem] theorem run_makeFunc (P : Program) (fn : Fn) (first cap : Array Value) (w : World) : (Instr.makeFunc fn first cap).run P w = .ok (.func fn first cap) w := rfl
theorem aR {α : Type} {q : α → Bool} {L : List α} {j : Nat} {x : α} (hx : L[j]? = some x) (hp : q x = true) : (L.take (j + 1)).filter q = (L.take j).filter q ++ [x] := by
 rw [List.take_add_one, hx, List.filter_append]; simp [hp]
theorem aW {α : Type} {q : α → Bool} {L : List α} {j : Nat} {x : α} (hx : L[j]? = some x) (hp : q x = false) : (L.take (j + 1)).filter q = (L.take j).filter q := by
 rw [List.take_add_one, hx, List.filter_append]; simp [hp]
def PredS (B : World) (D : PH) (l : List HP) (F : Nat) (caps : Array Value) (cs : List Value) (p : Bool) : Prop := ∀ (W : World) (X : List HP), Sat B D W (X ++ l) → Calls Tryz.prog F (#[.agg cs.toArray] ++ caps) W fun e W' => e = .returned (.bool p) ∧ Kept (fun _ => False) W W'
theorem cm {W : World} {b1 : Nat} {c1 : Array Value} {t1 : TypeId} (h1 : W.heap[b1]? = some (.cells c1 t1 (0, 0))) (cs : Array Value) (t : TypeId) : ∃ W1, W1 = W.alloc (.cells cs t) ∧ Kept (fun _ => False) W W1 ∧ W1.heap[W.heap.size]? = some (.cells cs t (0, 0)) ∧ W1.heap[b1]? = some (.cells c1 t1 (0, 0)) :=
 ⟨_, rfl, (Kept.refl _ _).alloc _, aC W _, dw h1⟩
theorem aB {w W : World} {b : Nat} {ob : Obj} (k : Kept (fun _ => False) w W) (h : w.heap[b]? = some ob) : W.heap[b]? = some ob := (k.block b (aH h) (fun h => h)).trans h
theorem eR {w W : World} {b : Nat} {cs : Array Value} {t : TypeId} (k : Kept (fun _ => False) w W) (h : w.heap[b]? = some (.cells cs t (0, 0))) : W.heap[b]? = some (.cells cs t (0, 0)) := aB k h
theorem iO (w : World) (c1 c2 : Array Value) (t1 t2 : TypeId) : ∃ W, W = (w.alloc (.cells c1 t1)).alloc (.cells c2 t2) ∧ Kept (fun _ => False) w W ∧ W.heap[w.heap.size]? = some (.cells c1 t1 (0, 0)) ∧ W.heap[w.heap.size + 1]? = some (.cells c2 t2 (0, 0)) := by
 have z1 : (w.alloc (.cells c1 t1)).heap.size = w.heap.size + 1 := Array.size_push ..
 have a1 := aC (w.alloc (.cells c1 t1)) (.cells c2 t2)
 rw [z1] at a1
 exact ⟨_, rfl, ((Kept.refl _ _).alloc _).alloc _, dw (aC w _), a1⟩
theorem ti (w : World) (c1 c2 c3 : Array Value) (t1 t2 t3 : TypeId) : ∃ W, W = ((w.alloc (.cells c1 t1)).alloc (.cells c2 t2)).alloc (.cells c3 t3) ∧ Kept (fun _ => False) w W ∧ W.heap[w.heap.size]? = some (.cells c1 t1 (0, 0)) ∧ W.heap[w.heap.size + 1]? = some (.cells c2 t2 (0, 0)) ∧ W.heap[w.heap.size + 1 + 1]? = some (.cells c3 t3 (0, 0)) := by
 have z1 : (w.alloc (.cells c1 t1)).heap.size = w.heap.size + 1 := Array.size_push ..
 have z2 : ((w.alloc (.cells c1 t1)).alloc (.cells c2 t2)).heap.size = w.heap.size + 1 + 1 := (Array.size_push ..).trans (by rw [z1])
 have a1 := aC (w.alloc (.cells c1 t1)) (.cells c2 t2)
 have a2 := aC ((w.alloc (.cells c1 t1)).alloc (.cells c2 t2)) (.cells c3 t3)
 rw [z1] at a1
 rw [z2] at a2
 exact ⟨_, rfl, (((Kept.refl _ _).alloc _).alloc _).alloc _, dw (dw (aC w _)), dw a1, a2⟩
theorem more_lt {C : Type} {l : List (Ent C)} {k : Nat} {x : Ent C} (h : k < cA l) (hx : l[k]? = some x) : x.more = true := by
 refine mK (l := l) ?_
 obtain ⟨hlt, rfl⟩ := List.getElem?_eq_some_iff.1 hx
 exact List.mem_take_iff_getElem.2 ⟨k, by omega, rfl⟩
theorem qR {C : Type} : ∀ {l : List (Ent C)} {k : Nat} {x : Ent C}, k = cA l → l[k]? = some x → x.more = false
 | [], k, x, _, hx => by simp at hx
 | y :: l, k, x, h, hx => by
  unfold cA at h
  cases hy : y.more
  ·rw [List.takeWhile_cons_of_neg (by simp [hy])] at h
   subst h
   simp at hx
   rw [← hx]; exact hy
  ·rw [List.takeWhile_cons_of_pos (by simp [hy])] at h
   subst h
   simp only [List.length_cons, List.getElem?_cons_succ] at hx
   exact qR (l := l) rfl hx
theorem iz {C : Type} {R : Rul C} (l : List (Ent C)) (o : Int) (c : C) : (∃ k, cM R l o c = some k ∧ cz (cH R o c) l = (k : Int) ∧ k < l.length) ∨ (cM R l o c = none ∧ cz (cH R o c) l = -1) := by
 unfold cM cz
 cases h : l.findIdx? (cH R o c) with
 | none => exact .inr ⟨rfl, rfl⟩
 | some k =>
  obtain ⟨hlt, _⟩ := List.findIdx?_eq_some_iff_getElem.1 h
  exact .inl ⟨k, rfl, rfl, hlt⟩
theorem kZ {C : Type} {R : Rul C} {l : List (Ent C)} {e : Ent C} {k : Nat} (h : cM R l e.o e.c = some k) : cy R l e = l.set k e.less := by unfold cy; rw [h]
theorem lp {C : Type} {R : Rul C} {l : List (Ent C)} {e : Ent C} (h : cM R l e.o e.c = none) : cy R l e = l ++ [e.less] := by unfold cy; rw [h]
theorem Sat.set5 {B w : World} {D : PH} {l : List HP} {b : Nat} {t : TypeId} {y0 y1 y2 y3 y4 y5 : Value} (hs : Sat B D w (Proofs.YtgljdkjepdknnaaGreatDoor.blk b #[y0, y1, y2, y3, y4, y5] t :: l)) (u : Value) : Sat B D (w.setCell ⟨b, 4, none⟩ u) (Proofs.YtgljdkjepdknnaaGreatDoor.blk b #[y0, y1, y2, y3, u, y5] t :: l) := hs.set 4 u
theorem Sat.set6 {B w : World} {D : PH} {l : List HP} {b : Nat} {t : TypeId} {y0 y1 y2 y3 y4 y5 : Value} (hs : Sat B D w (Proofs.YtgljdkjepdknnaaGreatDoor.blk b #[y0, y1, y2, y3, y4, y5] t :: l)) (u : Value) : Sat B D (w.setCell ⟨b, 5, none⟩ u) (Proofs.YtgljdkjepdknnaaGreatDoor.blk b #[y0, y1, y2, y3, y4, u] t :: l) := hs.set 5 u
theorem Rd.takeE {α : Type} {f : α → List Value} {z : Nat} (hf : ∀ a, (f a).length = z) {w : World} {ao : Option Addr} {n cap m : Nat} {xs : List α} (h : Rd w z (.slice ao n cap) n (xs.flatMap f)) (hm : m ≤ n) (hl : xs.length = n) : Rd w z (.slice ao m cap) (xs.take m).length ((xs.take m).flatMap f) := by
 obtain ⟨h1, h2, ao', cap', h3, h4, h5, h6, h7⟩ := h
 cases h3
 have e1 : (xs.take m).length = m := by rw [List.length_take]; omega
 rw [e1]
 refine ⟨by rw [eP hf, e1], by omega, ao, cap, rfl, by omega, h5, h6, ?_⟩
 rcases h7 with h7 | ⟨g, o, rfl, h8⟩
 ·exact .inl (by omega)
 ·refine .inr ⟨g, o, rfl, fun j u hu => ?_⟩
  rw [← cQ hf, List.getElem?_take] at hu
  split at hu
  ·exact h8 j u hu
  ·cases hu
theorem kK {C : Type} {R : Rul C} {q : Qm C} {o : Int} {c : C} {b : Bool} {e : Ent C} {i : Nat} (hw : (bJ q.waits o).isSome = false) (ha : dj R q o c = some (e, i)) : bj R q o c b = if d7 R q o e.c (q.waits.take i) then (cP R q e, true) else if b then (⟨q.held, q.waits.take i ++ [e] ++ q.waits.drop i⟩, false) else (q, false) := by
 unfold bj; rw [hw, ha]; simp
theorem qk {C : Type} (l : List (Ent C)) (o : Int) : ((bJ l o).isSome = true ∧ 0 ≤ cz (ofE o) l) ∨ ((bJ l o).isSome = false ∧ cz (ofE o) l = -1) := by
 unfold bJ cz
 cases h : l.findIdx? (ofE o) with
 | none => exact .inr ⟨rfl, rfl⟩
 | some k => exact .inl ⟨rfl, by dsimp only; omega⟩
theorem oQ {α : Type} {f : α → List Value} {z : Nat} (hf : ∀ a, (f a).length = z) (xs : List α) (i : Nat) (x : α) : (xs.flatMap f).take (i * z) ++ f x ++ (xs.flatMap f).drop (i * z) = (xs.take i ++ [x] ++ xs.drop i).flatMap f := by
 rw [cQ hf, ge hf]; simp
theorem lD {C : Type} {R : Rul C} {q : Qm C} {i : Nat} (hlt : i < q.waits.length) (h : ∀ j, j < i → eU R q j = false) (hi : eU R q i = true) : bA R q = some i := by
 unfold bA
 rw [List.find?_range_eq_some]
 exact ⟨hi, by simpa using hlt, fun j hj => by simp [h j hj]⟩
theorem kW {C : Type} {R : Rul C} {q : Qm C} (h : ∀ j, j < q.waits.length → eU R q j = false) : bA R q = none := by
 unfold bA
 rw [List.find?_eq_none]
 intro j hj
 simp [h j (by simpa using hj)]
theorem qp {C : Type} {R : Rul C} {q : Qm C} {i : Nat} {e : Ent C} (h : q.waits[i]? = some e) : eU R q i = d7 R q e.o e.c (q.waits.take i) := by unfold eU; rw [h]
theorem mj {α : Type} {f : α → List Value} {z : Nat} (hf : ∀ a, (f a).length = z) (xs : List α) (i : Nat) : (xs.flatMap f).take (i * z) ++ (xs.flatMap f).drop ((i + 1) * z) = (xs.eraseIdx i).flatMap f := by
 rw [cQ hf, ge hf, List.eraseIdx_eq_take_drop_succ, List.flatMap_append]
theorem gp {C : Type} {R : Rul C} (l : List (Ent C)) (e : Ent C) : (cy R l e).length ≤ l.length + 1 := by
 unfold cy
 split <;> simp
theorem iu : (Tryz.prog.info? 3).map (fun i => (i.zero, i.size, i.bytes)) = some (some (.int .i64 0), 1, 8) := by kernel_rfl
abbrev cj (v : Value) (l : List Int) : HP := aI 3 1 v l.length (l.map (Value.int .i64))
def gF (q : Nat) (w : World) : Nat := match w.cell? ⟨q, 5, none⟩ with
 | some (.slice _ n _) => n
 | _ => 0
theorem PredS.more {B : World} {D : PH} {l : List HP} {F : Nat} {caps : Array Value} {cs : List Value} {p : Bool} (h : PredS B D l F caps cs p) (Y : List HP) : PredS B D (Y ++ l) F caps cs p := fun W X hs => h W (X ++ Y) (by rw [List.append_assoc]; exact hs)
theorem Sat.rm2 {B w : World} {D : PH} {l : List HP} {A C E : HP} (hs : Sat B D w (A :: C :: E :: l)) : Sat B D w (A :: C :: l) := hs.rot.rot.drop
theorem Sat.rot26 {B w : World} {D : PH} {l : List HP} {A C E1 E2 E3 E4 E5 E6 : HP} (hs : Sat B D w (A :: C :: E1 :: E2 :: E3 :: E4 :: E5 :: E6 :: l)) : Sat B D w (E1 :: E2 :: E3 :: E4 :: E5 :: E6 :: A :: C :: l) := hs.perm ((List.perm_append_comm (l₁ := [A, C]) (l₂ := [E1, E2, E3, E4, E5, E6])).append_right l)
theorem Sat.end8 {B w : World} {D : PH} {l : List HP} {A E1 E2 E3 F1 F2 F3 F4 : HP} (hs : Sat B D w (A :: E1 :: E2 :: E3 :: F1 :: F2 :: F3 :: F4 :: l)) : Sat B D w (E1 :: E2 :: E3 :: A :: l) := by
 have h1 : Sat B D w (F1 :: F2 :: F3 :: F4 :: A :: E1 :: E2 :: E3 :: l) := hs.perm ((List.perm_append_comm (l₁ := [A, E1, E2, E3]) (l₂ := [F1, F2, F3, F4])).append_right l)
 exact h1.drop.drop.drop.drop.perm ((List.perm_append_comm (l₁ := [A]) (l₂ := [E1, E2, E3])).append_right l)
theorem Sat.rev5 {B w : World} {D : PH} {l : List HP} {A E1 E2 E3 F1 F2 F3 F4 : HP} (hs : Sat B D w (E1 :: E2 :: E3 :: A :: F1 :: F2 :: F3 :: F4 :: l)) : Sat B D w (E1 :: E2 :: E3 :: F4 :: F3 :: F2 :: F1 :: A :: l) :=
 hs.perm (List.Perm.append_left [E1, E2, E3] ((List.reverse_perm [A, F1, F2, F3, F4]).symm.append_right l))
theorem cG {B w : World} {D : PH} {l : List HP} (hs : Sat B D w l) (c1 c2 : Array Value) (t1 t2 : TypeId) : ∃ W, W = (w.alloc (.cells c1 t1)).alloc (.cells c2 t2) ∧ Sat B D W (blk w.heap.size c1 t1 :: blk (w.heap.size + 1) c2 t2 :: l) := by
 have h := ((hs.alloc c1 t1).alloc c2 t2)
 rw [World.size_alloc] at h
 exact ⟨_, rfl, h.swap⟩
end Go.Proofs.YtgljdkjepdknnaaGreatDoor
