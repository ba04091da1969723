/- Joined texts: A queue as data: who holds what, who waits; what asking, moving, dropping, leaving come to; what they keep to. Predicates, modes and claims as data. Function values that are asked of elements; places. (printed by genq.py) -/
import Derived.Test.YtgljdkjepdknnaaGreatDoorMT1
import Derived.Shelf.Abstract
import Derived.Deep.Cut
import Derived.Deep.CutBlock
namespace Go.Proofs.YtgljdkjepdknnaaGreatDoor
set_option linter.unusedSimpArgs false
structure Ent (C : Type) where
 o : Int
 c : C
 more : Bool
structure Rul (C : Type) where
 same : C → C → Bool
 conf : C → C → Bool
 cov : C → C → Bool
 join : C → C → C
structure Qm (C : Type) where
 held : List (Ent C)
 waits : List (Ent C)
section
variable {C : Type} (R : Rul C)
def cw (o : Int) (c : C) (e : Ent C) : Bool := decide (e.o = o) && R.same e.c c
def cB (l : List (Ent C)) (o : Int) (c : C) : Option Nat := l.findIdx? (cw R o c)
def ofE (o : Int) (e : Ent C) : Bool := decide (e.o = o)
def b8 (l : List (Ent C)) (o : Int) : Option Nat := l.findIdx? (ofE o)
def bC (o : Int) (c : C) (x : Ent C) : Bool := decide (x.o ≠ o) && R.conf x.c c
def dB (q : Qm C) (o : Int) (c : C) (ahead : List (Ent C)) : Bool := !(q.held.any (bC R o c)) && !(ahead.any (bC R o c))
def Ent.less (e : Ent C) : Ent C := ⟨e.o, e.c, false⟩
def bX (l : List (Ent C)) (e : Ent C) : List (Ent C) := match cB R l e.o e.c with
 | some k => l.set k e.less
 | none => l ++ [e.less]
def ci (q : Qm C) (e : Ent C) : Qm C := ⟨bX R q.held e, q.waits⟩
def ce (l : List (Ent C)) : Nat := (l.takeWhile (fun e => e.more)).length
def cL (q : Qm C) (o : Int) (c : C) : Option (Ent C × Nat) := match cB R q.held o c with
 | none => some (⟨o, c, false⟩, q.waits.length)
 | some k => match q.held[k]? with
  | none => none
  | some h => if R.cov h.c c then none else some (⟨o, R.join h.c c, true⟩, ce q.waits)
def aV (q : Qm C) (o : Int) (c : C) (wait : Bool) : Qm C × Bool :=
 if (b8 q.waits o).isSome then (q, false) else
 match cL R q o c with
 | none => (q, true)
 | some (e, at_) => if dB R q o e.c (q.waits.take at_) then (ci R q e, true) else if wait then (⟨q.held, q.waits.take at_ ++ [e] ++ q.waits.drop at_⟩, false) else (q, false)
def et (q : Qm C) (i : Nat) : Bool := match q.waits[i]? with
 | some e => dB R q e.o e.c (q.waits.take i)
 | none => false
def bl (q : Qm C) : Option Nat := (List.range q.waits.length).find? (et R q)
def eT : Nat → Qm C → Qm C × List Int
 | 0, q => (q, [])
 | n + 1, q => match bl R q with
  | none => (q, [])
  | some i => match q.waits[i]? with
   | none => (q, [])
   | some e => let x := eT n (ci R ⟨q.held, q.waits.eraseIdx i⟩ e); (x.1, e.o :: x.2)
def bJ (q : Qm C) : Qm C × List Int := eT R q.waits.length q
def a8 (q : Qm C) (gone : Ent C → Bool) : Qm C × List Int := bJ R ⟨q.held.filter (fun e => !gone e), q.waits⟩
def bj (q : Qm C) (o : Int) : Qm C × List Int := bJ R ⟨q.held, q.waits.filter (fun e => !ofE o e)⟩
def aE (q : Qm C) (o : Int) : List C := (q.held.filter (ofE o)).map (fun e => e.c)
end
section
variable {C : Type} {R : Rul C}
structure QOk (q : Qm C) : Prop where
 mores : q.waits.Pairwise (fun a b => b.more = true → a.more = true)
 once : q.waits.Pairwise (fun a b => a.o ≠ b.o)
theorem qN {l : List (Ent C)} (h : l.Pairwise (fun a b => b.more = true → a.more = true)) : l.takeWhile (fun e => e.more) = l.filter (fun e => e.more) := by
 induction l with
 | nil => rfl
 | cons x l ih =>
  obtain ⟨h1, h2⟩ := List.pairwise_cons.1 h
  cases hx : x.more
  ·rw [List.takeWhile_cons_of_neg (by simp [hx]), List.filter_cons_of_neg (by simp [hx])]
   symm
   refine List.filter_eq_nil_iff.2 (fun a ha => ?_)
   intro hm
   have := h1 a ha hm
   rw [hx] at this
   cases this
  ·rw [List.takeWhile_cons_of_pos (by simp [hx]), List.filter_cons_of_pos (by simp [hx]), ih h2]
theorem je (l : List (Ent C)) : l.take (ce l) = l.takeWhile (fun e => e.more) := by
 unfold ce
 induction l with
 | nil => rfl
 | cons x l ih =>
  cases hx : x.more
  ·rw [List.takeWhile_cons_of_neg (by simp [hx])]; rfl
  ·rw [List.takeWhile_cons_of_pos (by simp [hx]), List.length_cons, List.take_succ_cons, ih]
theorem fG (l : List (Ent C)) : ce l ≤ l.length := by
 unfold ce
 exact (List.takeWhile_sublist _).length_le
theorem ls {l : List (Ent C)} {e : Ent C} (h : e ∈ l.take (ce l)) : e.more = true := by
 rw [je] at h
 simpa using List.all_eq_true.1 (List.all_takeWhile (l := l) (p := fun e => e.more)) e h
theorem fc {l : List (Ent C)} {o : Int} (h : (b8 l o).isSome = false) : ∀ e ∈ l, e.o ≠ o := by
 unfold b8 at h
 intro e he ho
 have h0 : l.findIdx? (ofE o) = none := by simpa using h
 have := List.findIdx?_eq_none_iff.1 h0 e he
 unfold ofE at this
 simp [ho] at this
theorem ew {q : Qm C} {o : Int} {c : C} {e : Ent C} {i : Nat} (h : cL R q o c = some (e, i)) : e.o = o ∧ i ≤ q.waits.length ∧ ((e.more = false ∧ i = q.waits.length ∧ e.c = c ∧ cB R q.held o c = none) ∨ (e.more = true ∧ i = ce q.waits ∧ ∃ k x, cB R q.held o c = some k ∧ q.held[k]? = some x ∧ R.cov x.c c = false ∧ e.c = R.join x.c c)) := by
 unfold cL at h
 split at h
 ·rename_i h0
  cases h
  exact ⟨rfl, Nat.le_refl _, .inl ⟨rfl, rfl, rfl, h0⟩⟩
 ·rename_i k hk
  split at h
  ·cases h
  ·rename_i x hx
   split at h
   ·cases h
   ·rename_i hc
    cases h
    exact ⟨rfl, fG _, .inr ⟨rfl, rfl, k, x, hk, hx, by simpa using hc, rfl⟩⟩
theorem sC {q : Qm C} (h : QOk q) (o : Int) (c : C) (b : Bool) : QOk (aV R q o c b).1 := by
 unfold aV
 split
 ·exact h
 ·rename_i hw
  split
  ·exact h
  ·rename_i e i he
   obtain ⟨ho, hi, hm⟩ := ew he
   split
   ·exact ⟨h.mores, h.once⟩
   ·split
    ·have hne := fc (o := o) (l := q.waits) (by simpa using hw)
     have hsub : (q.waits.take i ++ q.waits.drop i) = q.waits := List.take_append_drop i _
     refine ⟨?_, ?_⟩
     ·show (q.waits.take i ++ [e] ++ q.waits.drop i).Pairwise _
      have hp := h.mores
      rw [← hsub, List.pairwise_append] at hp
      obtain ⟨p1, p2, p3⟩ := hp
      rw [List.append_assoc, List.pairwise_append]
      refine ⟨p1, List.pairwise_cons.2 ⟨fun a ha hm' => ?_, p2⟩, fun a ha b hb hm' => ?_⟩
      ·rcases hm with ⟨_, rfl, _⟩ | ⟨hm, _⟩
       ·rw [List.drop_length] at ha; cases ha
       ·exact hm
      ·rcases List.mem_cons.1 hb with rfl | hb
       ·rcases hm with ⟨hm, _⟩ | ⟨_, rfl, _⟩
        ·rw [hm] at hm'; cases hm'
        ·exact ls ha
       ·exact p3 a ha b hb hm'
     ·show (q.waits.take i ++ [e] ++ q.waits.drop i).Pairwise _
      have hp := h.once
      rw [← hsub, List.pairwise_append] at hp
      obtain ⟨p1, p2, p3⟩ := hp
      rw [List.append_assoc, List.pairwise_append]
      refine ⟨p1, List.pairwise_cons.2 ⟨fun a ha => ?_, p2⟩, fun a ha b hb => ?_⟩
      ·rw [ho]; exact (hne a (List.mem_of_mem_drop ha)).symm
      ·rcases List.mem_cons.1 hb with rfl | hb
       ·rw [ho]; exact hne a (List.mem_of_mem_take ha)
       ·exact p3 a ha b hb
    ·exact h
theorem QOk.sub {q : Qm C} (h : QOk q) {l m : List (Ent C)} (hs : l.Sublist q.waits) : QOk ⟨m, l⟩ := ⟨h.mores.sublist hs, h.once.sublist hs⟩
theorem ei {n : Nat} {q : Qm C} {i : Nat} {e : Ent C} (h : bl R q = some i) (he : q.waits[i]? = some e) : eT R (n + 1) q = ((eT R n (ci R ⟨q.held, q.waits.eraseIdx i⟩ e)).1, e.o :: (eT R n (ci R ⟨q.held, q.waits.eraseIdx i⟩ e)).2) := by
 conv => lhs; unfold eT
 simp only [h, he]
theorem dh {n : Nat} {q : Qm C} (h : bl R q = none) : eT R n q = (q, []) := by
 cases n with
 | zero => rfl
 | succ n => unfold eT; simp only [h]
theorem dP {q : Qm C} {i : Nat} (h : bl R q = some i) : ∃ e, q.waits[i]? = some e ∧ dB R q e.o e.c (q.waits.take i) = true ∧ i < q.waits.length := by
 unfold bl at h
 have h1 := List.find?_some h
 have h2 := List.mem_of_find?_eq_some h
 unfold et at h1
 split at h1
 ·rename_i e he
  exact ⟨e, he, h1, by simpa using h2⟩
 ·cases h1
theorem dN {P : Qm C → Prop} (step : ∀ (q : Qm C) (i : Nat) (e : Ent C), P q → bl R q = some i → q.waits[i]? = some e → P (ci R ⟨q.held, q.waits.eraseIdx i⟩ e)) : ∀ (n : Nat) (q : Qm C), P q → P (eT R n q).1
 | 0, q, h => h
 | n + 1, q, h => by
  cases hf : bl R q with
  | none => rw [dh hf]; exact h
  | some i =>
   obtain ⟨e, he, _, _⟩ := dP hf
   rw [ei hf he]
   exact dN step n _ (step q i e h hf he)
theorem ng {q : Qm C} (h : QOk q) : QOk (bJ R q).1 :=
 dN (P := QOk) (fun q _ _ h _ _ => QOk.sub (q := q) h (List.eraseIdx_sublist _ _)) _ _ h
theorem drop_ok {q : Qm C} (h : QOk q) (g : Ent C → Bool) : QOk (a8 R q g).1 := ng (QOk.sub h (List.Sublist.refl _))
theorem sK {q : Qm C} (h : QOk q) (o : Int) : QOk (bj R q o).1 := ng (QOk.sub h List.filter_sublist)
theorem lz : ∀ (n : Nat) (q : Qm C), (eT R n q).1.waits.length + (eT R n q).2.length = q.waits.length
 | 0, q => rfl
 | n + 1, q => by
  cases hf : bl R q with
  | none => rw [dh hf]; rfl
  | some i =>
   obtain ⟨e, he, _, hlt⟩ := dP hf
   rw [ei hf he]
   have := lz n (ci R ⟨q.held, q.waits.eraseIdx i⟩ e)
   have h2 : (ci R ⟨q.held, q.waits.eraseIdx i⟩ e).waits.length = q.waits.length - 1 := by
    show (q.waits.eraseIdx i).length = _
    rw [List.length_eraseIdx_of_lt hlt]
   rw [h2] at this
   simp only [List.length_cons]
   omega
theorem jg : ∀ (n : Nat) (q : Qm C), q.waits.length ≤ n → bl R (eT R n q).1 = none
 | 0, q, h => by
  have : q.waits = [] := List.eq_nil_of_length_eq_zero (by omega)
  show bl R q = none
  unfold bl
  rw [this]
  rfl
 | n + 1, q, h => by
  cases hf : bl R q with
  | none => rw [dh hf]; exact hf
  | some i =>
   obtain ⟨e, he, _, hlt⟩ := dP hf
   rw [ei hf he]
   refine jg n _ ?_
   show (q.waits.eraseIdx i).length ≤ n
   rw [List.length_eraseIdx_of_lt hlt]
   omega
theorem mA (q : Qm C) : bl R (bJ R q).1 = none := jg _ _ (Nat.le_refl _)
theorem ks : ∀ (n : Nat) (q : Qm C), q.waits.length ≤ n → eT R n q = bJ R q := by
 intro n
 induction n with
 | zero =>
  intro q h
  have : q.waits.length = 0 := by omega
  unfold bJ
  rw [this]
 | succ n ih =>
  intro q h
  by_cases hq : q.waits.length = n + 1
  ·unfold bJ; rw [hq]
  ·have h1 := ih q (by omega)
   rw [← h1]
   clear ih h1
   have : ∀ (n : Nat) (q : Qm C), q.waits.length ≤ n → eT R (n + 1) q = eT R n q := by
    intro n
    induction n with
    | zero =>
     intro q h
     have h0 : q.waits = [] := List.eq_nil_of_length_eq_zero (by omega)
     have : bl R q = none := by unfold bl; rw [h0]; rfl
     rw [dh this, dh this]
    | succ n ih =>
     intro q h
     cases hf : bl R q with
     | none => rw [dh hf, dh hf]
     | some i =>
      obtain ⟨e, he, _, hlt⟩ := dP hf
      rw [ei hf he, ei hf he, ih _ (by show (q.waits.eraseIdx i).length ≤ n; rw [List.length_eraseIdx_of_lt hlt]; omega)]
   exact this n q (by omega)
theorem hO {q : Qm C} {i : Nat} {e : Ent C} (h : bl R q = some i) (he : q.waits[i]? = some e) : bJ R q = ((bJ R (ci R ⟨q.held, q.waits.eraseIdx i⟩ e)).1, e.o :: (bJ R (ci R ⟨q.held, q.waits.eraseIdx i⟩ e)).2) := by
 have hlt := (List.getElem?_eq_some_iff.1 he).1
 have hl : (ci R ⟨q.held, q.waits.eraseIdx i⟩ e).waits.length = q.waits.length - 1 := by
  show (q.waits.eraseIdx i).length = _
  rw [List.length_eraseIdx_of_lt hlt]
 rw [← ks q.waits.length q (Nat.le_refl _)]
 obtain ⟨m, hm⟩ : ∃ m, q.waits.length = m + 1 := ⟨q.waits.length - 1, by omega⟩
 rw [hm, ei h he, ks m _ (by omega)]
theorem g7 {q : Qm C} (h : bl R q = none) : bJ R q = (q, []) := dh h
end
section
variable {C : Type} {R : Rul C}
theorem fC {l : List (Ent C)} {e x : Ent C} (h : x ∈ bX R l e) : x ∈ l ∨ x = e.less := by
 unfold bX at h
 split at h
 ·exact List.mem_or_eq_of_mem_set h
 ·simpa using h
def Apart (R : Rul C) (l : List (Ent C)) : Prop := ∀ x ∈ l, ∀ y ∈ l, x.o ≠ y.o → R.conf x.c y.c = false
theorem kc {q : Qm C} (sym : ∀ a b, R.conf a b = R.conf b a) {e : Ent C} {ah : List (Ent C)} (h : Apart R q.held) (hf : dB R q e.o e.c ah = true) : Apart R (bX R q.held e) := by
 have h1 : ∀ x ∈ q.held, x.o ≠ e.o → R.conf x.c e.c = false := by
  intro x hx ho
  unfold dB at hf
  simp only [Bool.and_eq_true, Bool.not_eq_true', List.any_eq_false] at hf
  have := hf.1 x hx
  unfold bC at this
  simpa [ho] using this
 intro x hx y hy ho
 rcases fC hx with hx | rfl <;> rcases fC hy with hy | rfl
 ·exact h x hx y hy ho
 ·exact h1 x hx ho
 ·rw [sym]; exact h1 y hy (Ne.symm ho)
 ·exact absurd rfl ho
theorem qe {q : Qm C} (sym : ∀ a b, R.conf a b = R.conf b a) (h : Apart R q.held) (o : Int) (c : C) (b : Bool) : Apart R (aV R q o c b).1.held := by
 unfold aV
 split
 ·exact h
 ·split
  ·exact h
  ·rename_i e i he
   obtain ⟨ho, _, _⟩ := ew he
   split
   ·rename_i hf
    exact kc sym h (by rw [ho]; exact hf)
   ·split <;> exact h
theorem jl {q : Qm C} (sym : ∀ a b, R.conf a b = R.conf b a) (h : Apart R q.held) : Apart R (bJ R q).1.held :=
 dN (P := fun q => Apart R q.held) (fun q i e h hf he => by
  obtain ⟨e', he', hfr, _⟩ := dP hf
  rw [he] at he'
  cases he'
  exact kc (q := q) sym h hfr) _ _ h
theorem Apart.sub {l m : List (Ent C)} (h : Apart R l) (hs : ∀ x ∈ m, x ∈ l) : Apart R m := fun x hx y hy => h x (hs x hx) y (hs y hy)
theorem nG {q : Qm C} (sym : ∀ a b, R.conf a b = R.conf b a) (h : Apart R q.held) (g : Ent C → Bool) : Apart R (a8 R q g).1.held := jl sym (h.sub (fun _ hx => (List.mem_filter.1 hx).1))
theorem nd {q : Qm C} (sym : ∀ a b, R.conf a b = R.conf b a) (h : Apart R q.held) (o : Int) : Apart R (bj R q o).1.held := jl sym h
theorem iR {q : Qm C} {o : Int} {c : C} (h : c ∈ aE q o) : ∃ e ∈ q.held, e.o = o ∧ e.c = c := by
 unfold aE at h
 obtain ⟨e, he, rfl⟩ := List.mem_map.1 h
 obtain ⟨h1, h2⟩ := List.mem_filter.1 he
 exact ⟨e, h1, by simpa [ofE] using h2, rfl⟩
def AllE (P : Int → C → Prop) (q : Qm C) : Prop := (∀ e ∈ q.held, P e.o e.c) ∧ ∀ e ∈ q.waits, P e.o e.c
theorem mv {P : Int → C → Prop} {l : List (Ent C)} {e : Ent C} (h : ∀ x ∈ l, P x.o x.c) (he : P e.o e.c) : ∀ x ∈ bX R l e, P x.o x.c := by
 intro x hx
 rcases fC hx with hx | rfl
 ·exact h x hx
 ·exact he
theorem lf {P : Int → C → Prop} {q : Qm C} (h : AllE P q) : AllE P (bJ R q).1 :=
 dN (P := AllE P) (fun _ _ e h _ he => ⟨mv h.1 (h.2 e (List.mem_of_getElem? he)), fun x hx => h.2 x (List.mem_of_mem_eraseIdx hx)⟩) _ _ h
theorem rO {P : Int → C → Prop} {q : Qm C} (h : AllE P q) (g : Ent C → Bool) : AllE P (a8 R q g).1 := lf ⟨fun x hx => h.1 x (List.mem_filter.1 hx).1, h.2⟩
theorem qE {P : Int → C → Prop} {q : Qm C} (h : AllE P q) (o : Int) : AllE P (bj R q o).1 := lf ⟨h.1, fun x hx => h.2 x (List.mem_filter.1 hx).1⟩
def li (R : Rul C) (q : Qm C) : Prop := ∀ (i : Nat) (e : Ent C), q.waits[i]? = some e → dB R q e.o e.c (q.waits.take i) = false
theorem qb {q : Qm C} : li R q ↔ bl R q = none := by
 unfold bl li
 rw [List.find?_eq_none]
 constructor
 ·intro h i hi
  unfold et
  have hlt : i < q.waits.length := by simpa using hi
  rw [List.getElem?_eq_getElem hlt]
  have := h i _ (List.getElem?_eq_getElem hlt)
  simp [this]
 ·intro h i e he
  have hlt := (List.getElem?_eq_some_iff.1 he).1
  have := h i (by simpa using hlt)
  unfold et at this
  rw [he] at this
  simpa using this
theorem eg {q : Qm C} {o : Int} {c : C} {ah : List (Ent C)} : dB R q o c ah = false ↔ ∃ x, (x ∈ q.held ∨ x ∈ ah) ∧ x.o ≠ o ∧ R.conf x.c c = true := by
 unfold dB
 rw [Bool.and_eq_false_iff, Bool.not_eq_false', Bool.not_eq_false', List.any_eq_true, List.any_eq_true]
 unfold bC
 constructor
 ·rintro (⟨x, hx, h⟩ | ⟨x, hx, h⟩)
  ·exact ⟨x, .inl hx, by simpa using h⟩
  ·exact ⟨x, .inr hx, by simpa using h⟩
 ·rintro ⟨x, hx | hx, h⟩
  ·exact .inl ⟨x, hx, by simpa using h⟩
  ·exact .inr ⟨x, hx, by simpa using h⟩
theorem dx {l : List (Ent C)} {o : Int} {c : C} {k : Nat} (h : cB R l o c = some k) : ∃ x, l[k]? = some x ∧ x.o = o ∧ R.same x.c c = true ∧ k < l.length := by
 unfold cB at h
 obtain ⟨hlt, hk, _⟩ := List.findIdx?_eq_some_iff_getElem.1 h
 unfold cw at hk
 rw [Bool.and_eq_true, decide_eq_true_eq] at hk
 exact ⟨l[k], List.getElem?_eq_getElem hlt, hk.1, hk.2, hlt⟩
theorem mL {l : List (Ent C)} {e x : Ent C} (hx : x ∈ l) (hm : ∀ k y, cB R l e.o e.c = some k → l[k]? = some y → ∀ c, R.conf y.c c = true → R.conf e.c c = true) {o : Int} {c : C} (ho : x.o ≠ o) (hc : R.conf x.c c = true) : ∃ y ∈ bX R l e, y.o ≠ o ∧ R.conf y.c c = true := by
 unfold bX
 split
 ·rename_i k hk
  obtain ⟨y, hy, hyo, _, hlt⟩ := dx hk
  obtain ⟨i, hi, rfl⟩ := List.mem_iff_getElem.1 hx
  by_cases hik : i = k
  ·subst hik
   have hyx : l[i] = y := by rw [List.getElem?_eq_getElem hi] at hy; exact Option.some.inj hy
   refine ⟨e.less, ?_, ?_, ?_⟩
   ·exact List.mem_iff_getElem.2 ⟨i, by simpa using hi, by simp⟩
   ·show e.o ≠ o
    rw [← hyo, ← hyx]; exact ho
   ·exact hm i y hk hy c (by rw [← hyx]; exact hc)
  ·exact ⟨l[i], List.mem_iff_getElem.2 ⟨i, by simpa using hi, by rw [List.getElem_set_ne (Ne.symm hik)]⟩, ho, hc⟩
 ·exact ⟨x, List.mem_append.2 (.inl hx), ho, hc⟩
end
section
variable {C : Type} {R : Rul C}
structure RulOk (R : Rul C) (P : C → Prop) : Prop where
 sym : ∀ a b, R.conf a b = R.conf b a
 own : ∀ h c y, R.same h c = true → R.same y (R.join h c) = R.same y c
 keep : ∀ h c y, P h → P c → R.same h c = true → R.conf h y = true → R.conf (R.join h c) y = true
theorem oE {P : C → Prop} (hR : RulOk R P) {l : List (Ent C)} {o : Int} {h c : C} (hs : R.same h c = true) : cB R l o (R.join h c) = cB R l o c := by
 unfold cB
 have : cw R o (R.join h c) = cw R o c := funext fun e => by unfold cw; rw [hR.own h c e.c hs]
 rw [this]
theorem ins_get {α : Type} {l : List α} {at_ i : Nat} {e x : α} (ha : at_ ≤ l.length) (h : (l.take at_ ++ [e] ++ l.drop at_)[i]? = some x) :
  (i < at_ ∧ l[i]? = some x ∧ (l.take at_ ++ [e] ++ l.drop at_).take i = l.take i) ∨ (i = at_ ∧ x = e ∧ (l.take at_ ++ [e] ++ l.drop at_).take i = l.take at_) ∨ (∃ j, i = j + 1 ∧ at_ ≤ j ∧ l[j]? = some x ∧ ∀ y ∈ l.take j, y ∈ (l.take at_ ++ [e] ++ l.drop at_).take i) := by
 have hl : (l.take at_).length = at_ := by rw [List.length_take]; omega
 rcases Nat.lt_trichotomy i at_ with hi | hi | hi
 ·left
  refine ⟨hi, ?_, ?_⟩
  ·rw [List.append_assoc, List.getElem?_append_left (by omega), List.getElem?_take, if_pos hi] at h
   exact h
  ·rw [List.append_assoc, List.take_append_of_le_length (by omega), List.take_take, Nat.min_eq_left (by omega)]
 ·right; left
  subst hi
  refine ⟨rfl, ?_, ?_⟩
  ·rw [List.append_assoc, List.getElem?_append_right (by omega), hl] at h
   simpa using h.symm
  ·rw [List.append_assoc, List.take_append_of_le_length (by omega), List.take_of_length_le (by omega)]
 ·right; right
  obtain ⟨j, rfl⟩ : ∃ j, i = j + 1 := ⟨i - 1, by omega⟩
  refine ⟨j, rfl, by omega, ?_, ?_⟩
  ·rw [List.append_assoc, List.getElem?_append_right (by omega), hl] at h
   have e1 : j + 1 - at_ = (j - at_) + 1 := by omega
   rw [e1] at h
   simp only [List.cons_append, List.nil_append, List.getElem?_cons_succ, List.getElem?_drop] at h
   rw [show at_ + (j - at_) = j by omega] at h
   exact h
  ·intro y hy
   rw [List.append_assoc, List.take_append, hl, List.take_of_length_le (by omega)]
   have e1 : j + 1 - at_ = (j - at_) + 1 := by omega
   rw [e1]
   have hj : l.take j = l.take at_ ++ (l.drop at_).take (j - at_) := by
    have : j = at_ + (j - at_) := by omega
    conv => lhs; rw [this]
    rw [List.take_add]
   rw [hj] at hy
   rcases List.mem_append.1 hy with hy | hy
   ·exact List.mem_append.2 (.inl hy)
   ·exact List.mem_append.2 (.inr (by simp [hy]))
theorem pF {P : C → Prop} (hR : RulOk R P) {q : Qm C} (h : li R q) (hP : AllE (fun _ => P) q) (o : Int) (c : C) (b : Bool) (hc : P c) : li R (aV R q o c b).1 := by
 unfold aV
 split
 ·exact h
 ·split
  ·exact h
  ·rename_i e i he
   obtain ⟨ho, hi, hm⟩ := ew he
   split
   ·rename_i hf
    intro j x hx
    refine eg.2 ?_
    obtain ⟨y, hy, hyo, hyc⟩ := eg.1 (h j x hx)
    rcases hy with hy | hy
    ·obtain ⟨z, hz, hzo, hzc⟩ := mL (R := R) (e := e) hy (fun k y0 hk hy0 c0 hc0 => by
      rcases hm with ⟨_, _, hec, hn⟩ | ⟨_, _, k0, x0, hk0, hx0, _, hec⟩
      ·rw [ho, hec, hn] at hk; cases hk
      ·obtain ⟨x1, hx1, _, hs, _⟩ := dx hk0
       rw [hx0] at hx1
       obtain rfl := Option.some.inj hx1
       rw [ho, hec, oE hR hs, hk0] at hk
       cases hk
       rw [hx0] at hy0
       obtain rfl := Option.some.inj hy0
       rw [hec]
       exact hR.keep _ _ _ (hP.1 _ (List.mem_of_getElem? hx0)) hc hs hc0) hyo hyc
     exact ⟨z, .inl hz, hzo, hzc⟩
    ·exact ⟨y, .inr hy, hyo, hyc⟩
   ·rename_i hf
    split
    ·intro j x hx
     refine eg.2 ?_
     rcases ins_get hi hx with ⟨_, hj, ht⟩ | ⟨rfl, rfl, ht⟩ | ⟨k, rfl, _, hj, ht⟩
     ·obtain ⟨y, hy, hyo, hyc⟩ := eg.1 (h j x hj)
      exact ⟨y, by rw [ht]; exact hy, hyo, hyc⟩
     ·obtain ⟨y, hy, hyo, hyc⟩ := eg.1 (by simpa using hf : dB R q o x.c (q.waits.take j) = false)
      exact ⟨y, by rw [ht]; exact hy, by rw [ho]; exact hyo, hyc⟩
     ·obtain ⟨y, hy, hyo, hyc⟩ := eg.1 (h k x hj)
      exact ⟨y, hy.imp (fun h => h) (ht y), hyo, hyc⟩
    ·exact h
theorem jo (q : Qm C) : li R (bJ R q).1 := qb.2 (mA q)
theorem kw {l : List (Ent C)} {o : Int} {k : Nat} (h : b8 l o = some k) : ∃ e, l[k]? = some e ∧ e.o = o := by
 unfold b8 at h
 obtain ⟨hlt, hk, _⟩ := List.findIdx?_eq_some_iff_getElem.1 h
 exact ⟨l[k], List.getElem?_eq_getElem hlt, by simpa [ofE] using hk⟩
theorem lA (q : Qm C) : (bJ R q).1.waits.length + (bJ R q).2.length = q.waits.length := lz _ _
end
section
variable {C : Type} {R : Rul C}
end
section
variable {C : Type} {R : Rul C}
theorem rU (q : Qm C) (g : Ent C → Bool) : (a8 R q g).1.waits.length + (a8 R q g).2.length = q.waits.length := lA _
theorem qH {l : List (Ent C)} {k : Nat} {x e : Ent C} {o : Int} (hx : l[k]? = some x) (ho : x.o = e.o) : ((l.set k e).filter (ofE o)).length = (l.filter (ofE o)).length := by
 obtain ⟨hlt, rfl⟩ := List.getElem?_eq_some_iff.1 hx
 have e1 : l = l.take k ++ l[k] :: l.drop (k + 1) := by rw [← List.drop_eq_getElem_cons hlt, List.take_append_drop]
 rw [List.set_eq_take_append_cons_drop, if_pos hlt]
 conv => rhs; rw [e1]
 simp only [List.filter_append, List.length_append, List.filter_cons]
 have : ofE o e = ofE o l[k] := by unfold ofE; rw [ho]
 rw [this]
 split <;> simp
theorem rK {q : Qm C} (o : Int) (c : C) (hj : ∀ h, R.same h c = true → R.same (R.join h c) c = true) : ((aV R q o c false).2 = false ∧ (aV R q o c false).1 = q) ∨
  ((aV R q o c false).2 = true ∧ (b8 q.waits o).isSome = false ∧ (aE q o).length ≤ (aE (aV R q o c false).1 o).length ∧ (aV R q o c false).1.waits = q.waits ∧
   (aV R q o c false).1.held.length + (aE q o).length = q.held.length + (aE (aV R q o c false).1 o).length ∧ (R.same c c = true → ∃ x ∈ aE (aV R q o c false).1 o, R.same x c = true)) := by
 unfold aV
 cases hw : (b8 q.waits o).isSome
 ·simp only [Bool.false_eq_true, if_false]
  cases ha : cL R q o c with
  | none =>
   right
   refine ⟨by simp, by simp, Nat.le_refl _, rfl, rfl, fun _ => ?_⟩
   unfold cL at ha
   split at ha
   ·cases ha
   ·rename_i k hk
    obtain ⟨x, hx, hxo, hs, _⟩ := dx hk
    refine ⟨x.c, ?_, hs⟩
    unfold aE
    exact List.mem_map.2 ⟨x, List.mem_filter.2 ⟨List.mem_of_getElem? hx, by unfold ofE; simp [hxo]⟩, rfl⟩
  | some p =>
   obtain ⟨e, i⟩ := p
   obtain ⟨ho, _, hm⟩ := ew ha
   dsimp only
   cases hf : dB R q o e.c (q.waits.take i)
   ·left
    simp
   ·right
    simp only [if_true]
    have hsame : R.same c c = true → R.same e.c c = true := by
     rcases hm with ⟨_, _, hc, _⟩ | ⟨_, _, k, x, hk, hx, _, hc⟩
     ·rw [hc]; exact fun h => h
     ·obtain ⟨x1, hx1, _, hs, _⟩ := dx hk
      rw [hx] at hx1
      obtain rfl := Option.some.inj hx1
      rw [hc]
      exact fun _ => hj _ hs
    have hheld : (aE q o).length ≤ (aE (ci R q e) o).length ∧ (ci R q e).held.length + (aE q o).length = q.held.length + (aE (ci R q e) o).length ∧ e.c ∈ aE (ci R q e) o := by
     unfold aE ci bX
     dsimp only
     rw [List.length_map, List.length_map]
     split
     ·rename_i k hk
      obtain ⟨x, hx, hxo, _, hlt⟩ := dx hk
      rw [qH hx (by show x.o = e.less.o; exact hxo), List.length_set]
      refine ⟨Nat.le_refl _, rfl, List.mem_map.2 ⟨e.less, List.mem_filter.2 ⟨?_, by unfold ofE Ent.less; simp [ho]⟩, rfl⟩⟩
      exact List.mem_iff_getElem.2 ⟨k, by simpa using hlt, by simp⟩
     ·rw [List.filter_append, List.length_append, List.length_append]
      have : ofE o e.less = true := by unfold ofE Ent.less; simp [ho]
      simp only [List.filter_cons, this, if_true, List.filter_nil, List.length_cons, List.length_nil]
      refine ⟨by omega, by omega, ?_⟩
      simp [Ent.less]
    exact ⟨by simp, by simp, hheld.1, rfl, hheld.2.1, fun h => ⟨e.c, hheld.2.2, hsame h⟩⟩
 ·left
  simp
end
inductive PredT where
 | mk (op col : Int) (v w : Val) (l : List PredT)
def PredT.op : PredT → Int | .mk a _ _ _ _ => a
def PredT.col : PredT → Int | .mk _ a _ _ _ => a
def PredT.v : PredT → Val | .mk _ _ a _ _ => a
def PredT.w : PredT → Val | .mk _ _ _ a _ => a
def PredT.l : PredT → List PredT | .mk _ _ _ _ a => a
theorem PredT.ind {P : PredT → Prop} (h : ∀ op col v w l, (∀ q ∈ l, P q) → P (.mk op col v w l)) : ∀ p, P p
 | .mk op col v w l => h op col v w l (fun q _hq => PredT.ind h q)
termination_by p => SizeOf.sizeOf p
decreasing_by
 have := List.sizeOf_lt_of_mem _hq
 simp only [PredT.mk.sizeOf_spec]
 omega
def dw (op col : Int) (v w : Val) (r : List Val) : Bool :=
 if col < 0 ∨ (r.length : Int) ≤ col then false else
 let x := r.getD col.toNat default
 let c := dc x v
 if op = 3 then decide (c = 0) else if op = 4 then !decide (c = 0) else if op = 5 then decide (c < 0) else if op = 6 then decide (c ≤ 0) else if op = 7 then decide (0 < c) else if op = 8 then decide (0 ≤ c) else decide (0 ≤ c) && decide (dc x w ≤ 0)
mutual
def PredT.holds : PredT → List Val → Bool
 | .mk op col v w l, r =>
  if op = 1 then true else if 3 ≤ op ∧ op ≤ 9 then dw op col v w r else if op = 10 then !((PredT.holdsL l r).headD false) else if op = 11 then (PredT.holdsL l r).all id else if op = 12 then (PredT.holdsL l r).any id else false
def PredT.holdsL : List PredT → List Val → List Bool
 | [], _ => []
 | p :: l, r => p.holds r :: PredT.holdsL l r
end
theorem kp (r : List Val) : ∀ l : List PredT, PredT.holdsL l r = l.map (fun p => p.holds r)
 | [] => rfl
 | p :: l => by unfold PredT.holdsL; rw [kp r l]; rfl
theorem PredT.holds_eq (op col : Int) (v w : Val) (l : List PredT) (r : List Val) : (PredT.mk op col v w l).holds r =
  if op = 1 then true else if 3 ≤ op ∧ op ≤ 9 then dw op col v w r else if op = 10 then !((l.map (fun p => p.holds r)).headD false) else if op = 11 then l.all (fun p => p.holds r) else if op = 12 then l.any (fun p => p.holds r) else false := by
 conv => lhs; unfold PredT.holds
 simp only [kp, List.all_map, List.any_map]
 rfl
open Classical in
noncomputable def bR (p q : PredT) : Bool := decide (p = q)
theorem d8 {p q : PredT} : bR p q = true ↔ p = q := by unfold bR; simp
theorem gm (p : PredT) : bR p p = true := d8.2 rfl
noncomputable def cJ (l m : List PredT) : Bool := decide (l.length = m.length) && (l.zip m).all (fun x => bR x.1 x.2)
theorem cU : ∀ {l m : List PredT}, cJ l m = true ↔ l = m
 | [], [] => by simp [cJ]
 | [], _ :: _ => by simp [cJ]
 | _ :: _, [] => by simp [cJ]
 | p :: l, q :: m => by
  have := cU (l := l) (m := m)
  unfold cJ at this ⊢
  simp only [List.length_cons, List.zip_cons_cons, List.all_cons, Bool.and_eq_true, decide_eq_true_eq, d8, List.cons.injEq, Nat.add_right_cancel_iff] at this ⊢
  rw [← this]
  constructor
  ·rintro ⟨a, b, c⟩; exact ⟨b, a, c⟩
  ·rintro ⟨a, b, c⟩; exact ⟨b, a, c⟩
theorem ly (a b : Int) (v w : Val) (l : List PredT) (a' b' : Int) (v' w' : Val) (l' : List PredT) : bR (.mk a b v w l) (.mk a' b' v' w' l') = (decide (a = a') && decide (b = b') && decide (v = v') && decide (w = w') && cJ l l') := by
 rw [Bool.eq_iff_iff]
 simp only [d8, Bool.and_eq_true, decide_eq_true_eq, cU, PredT.mk.injEq]
 constructor
 ·rintro ⟨a, b, c, d, e⟩; exact ⟨⟨⟨⟨a, b⟩, c⟩, d⟩, e⟩
 ·rintro ⟨⟨⟨⟨a, b⟩, c⟩, d⟩, e⟩; exact ⟨a, b, c, d, e⟩
def br (m : Int) : Bool := decide (0 ≤ m) && decide (m ≤ 6)
def agT : List Nat := [0, 64, 120, 84, 124, 116, 126]
def agM (m : Int) : Nat := agT.getD m.toNat 0
def cK (a b : Int) : Bool := br a && br b && ((agM a >>> b.toNat) &&& 1 == 0)
def aN (a b : Int) : Bool := br a && br b && (List.range 7).all (fun i => !(cK a i) || cK b i)
def eH (a b : Int) (best : Int) (m : Nat) : Int := if aN m a && aN m b && aN best m then (m : Int) else best
def dl (a b : Int) : Int := if br a && br b then (List.range 7).foldl (eH a b) 6 else 0
theorem bB {m : Int} (h : br m = true) : m = 0 ∨ m = 1 ∨ m = 2 ∨ m = 3 ∨ m = 4 ∨ m = 5 ∨ m = 6 := by
 unfold br at h
 simp only [Bool.and_eq_true, decide_eq_true_eq] at h
 omega
theorem qt (a b : Int) : cK a b = cK b a := by
 by_cases ha : br a = true
 ·by_cases hb : br b = true
  ·rcases bB ha with rfl | rfl | rfl | rfl | rfl | rfl | rfl <;> rcases bB hb with rfl | rfl | rfl | rfl | rfl | rfl | rfl <;> decide
  ·unfold cK; simp [hb]
 ·unfold cK; simp [ha]
theorem lK {a b x : Int} (ha : br a = true) (hb : br b = true) (h : cK a x = false) : cK (dl a b) x = false := by
 by_cases hx : br x = true
 ·revert h
  rcases bB ha with rfl | rfl | rfl | rfl | rfl | rfl | rfl <;> rcases bB hb with rfl | rfl | rfl | rfl | rfl | rfl | rfl <;> rcases bB hx with rfl | rfl | rfl | rfl | rfl | rfl | rfl <;> decide
 ·unfold cK; simp [hx]
structure Clm where
 kind : Int
 table : Int
 mode : Int
 key : Val
 imgs : List (List Val)
 pred : PredT
noncomputable def cz (a b : Clm) : Bool := decide (a.kind = b.kind) && decide (a.table = b.table) && (if a.kind = 1 then true else if a.kind = 2 then decide (a.key = b.key) else if a.kind = 3 then bR a.pred b.pred else false)
def bO (p w : Clm) : Bool := decide (w.mode = 6) && w.imgs.any (fun r => decide (0 < r.length) && p.pred.holds r)
def fQ (a b : Clm) : Bool := decide (a.table = b.table) &&
 (if a.kind = 1 ∧ b.kind = 1 then !cK a.mode b.mode else if a.kind = 2 ∧ b.kind = 2 then decide (a.key = b.key) && !cK a.mode b.mode else if a.kind = 3 ∧ b.kind = 2 then bO a b else if a.kind = 2 ∧ b.kind = 3 then bO b a else false)
def cY (l : List (List Val)) (r : List Val) : Bool := l.any (fun x => decide (x = r))
noncomputable def oI (a b : Clm) : Bool := cz a b && aN a.mode b.mode && b.imgs.all (fun r => cY a.imgs r)
def bL (l m : List (List Val)) : List (List Val) := m.foldl (fun o r => if cY o r then o else o ++ [r]) l
noncomputable def dp (a b : Clm) : Clm := if cz a b then { a with mode := dl a.mode b.mode, imgs := bL a.imgs b.imgs } else a
theorem eX (a b : Clm) : fQ a b = fQ b a := by
 unfold fQ
 by_cases ht : a.table = b.table
 ·rw [qt b.mode a.mode]
  have hk : decide (a.key = b.key) = decide (b.key = a.key) := by rw [Bool.eq_iff_iff]; simp [eq_comm]
  rw [hk]
  simp only [ht, decide_true, Bool.true_and]
  by_cases h1 : a.kind = 1 <;> by_cases h2 : b.kind = 1 <;> by_cases h3 : a.kind = 2 <;> by_cases h4 : b.kind = 2 <;> by_cases h5 : a.kind = 3 <;> by_cases h6 : b.kind = 3 <;> simp_all
 ·simp [ht, Ne.symm ht]
theorem cp {a b : Clm} : cz a b = true ↔ a.kind = b.kind ∧ a.table = b.table ∧ (a.kind = 1 ∨ (a.kind = 2 ∧ a.key = b.key) ∨ (a.kind = 3 ∧ a.pred = b.pred)) := by
 unfold cz
 rw [Bool.and_eq_true, Bool.and_eq_true, decide_eq_true_eq, decide_eq_true_eq, and_assoc]
 refine and_congr_right (fun _ => and_congr_right (fun _ => ?_))
 by_cases h1 : a.kind = 1
 ·simp [h1]
 ·by_cases h2 : a.kind = 2
  ·simp [h2]
  ·by_cases h3 : a.kind = 3
   ·simp [h3, d8]
   ·simp [h1, h2, h3]
theorem gk (a b : Clm) : cz a b = cz b a := by
 rw [Bool.eq_iff_iff, cp, cp]
 constructor
 ·rintro ⟨h1, h2, h3⟩
  exact ⟨h1.symm, h2.symm, by rw [h1] at h3; rcases h3 with h | ⟨h, h'⟩ | ⟨h, h'⟩; exact .inl h; exact .inr (.inl ⟨h, h'.symm⟩); exact .inr (.inr ⟨h, h'.symm⟩)⟩
 ·rintro ⟨h1, h2, h3⟩
  exact ⟨h1.symm, h2.symm, by rw [h1] at h3; rcases h3 with h | ⟨h, h'⟩ | ⟨h, h'⟩; exact .inl h; exact .inr (.inl ⟨h, h'.symm⟩); exact .inr (.inr ⟨h, h'.symm⟩)⟩
theorem gT {a b c : Clm} (h : cz a b = true) : cz c a = cz c b := by
 obtain ⟨h1, h2, h3⟩ := cp.1 h
 rw [Bool.eq_iff_iff, cp, cp, ← h1, ← h2]
 refine and_congr_right (fun hk => and_congr_right (fun _ => ?_))
 rw [hk]
 rcases h3 with h | ⟨h, h'⟩ | ⟨h, h'⟩
 ·simp [h]
 ·simp [h, h']
 ·simp [h, h']
theorem ik (h c y : Clm) (hs : cz h c = true) : cz y (dp h c) = cz y c := by
 rw [← gT hs]
 unfold dp
 rw [if_pos hs]
 rfl
theorem gD {l : List (List Val)} : ∀ {m : List (List Val)} {r : List Val}, r ∈ l → r ∈ bL l m := by
 intro m
 unfold bL
 induction m generalizing l with
 | nil => intro r h; exact h
 | cons x m ih =>
  intro r h
  show r ∈ m.foldl _ _
  refine ih ?_
  dsimp only
  split
  ·exact h
  ·exact List.mem_append.2 (.inl h)
theorem joinM_x {a b : Int} (ha : a = 6) (hb : br b = true) : dl a b = 6 := by
 subst ha
 rcases bB hb with rfl | rfl | rfl | rfl | rfl | rfl | rfl <;> decide
end Go.Proofs.YtgljdkjepdknnaaGreatDoor
namespace Go.Proofs.YtgljdkjepdknnaaGreatDoor
open Go.ChangeShapes Go.WideShapes Go.ChangeAt Go.RowKit
set_option maxRecDepth 100000
set_option linter.unusedSimpArgs false
def PredF (F : Nat) (caps : Array Value) (w : World) (cs : List Value) (p : Bool) : Prop := Enters Tryz.prog F ∧ ∀ W, Kept (fun _ => False) w W → Calls Tryz.prog F (#[.agg cs.toArray] ++ caps) W fun e W' => e = .returned (.bool p) ∧ Kept (fun _ => False) W W'
theorem PredF.kept {F : Nat} {caps : Array Value} {w w' : World} {cs : List Value} {p : Bool} (h : PredF F caps w cs p) (k : Kept (fun _ => False) w w') : PredF F caps w' cs p := ⟨h.1, fun W hW => h.2 W (k.trans hW (fun _ h => h.elim))⟩
def cl {α : Type} (p : α → Bool) (xs : List α) : Int := match xs.findIdx? p with
 | some k => (k : Int)
 | none => -1
theorem eN {α : Type} {p : α → Bool} {xs : List α} {j : Nat} {x : α} (h : ∀ y ∈ xs.take j, p y = false) (hx : xs[j]? = some x) (hp : p x = true) : cl p xs = j := by
 unfold cl
 have hlt := (List.getElem?_eq_some_iff.1 hx).1
 have : xs.findIdx? p = some j := by
  refine List.findIdx?_eq_some_iff_getElem.2 ⟨hlt, ?_, fun i hi => ?_⟩
  ·rw [List.getElem?_eq_getElem hlt] at hx
   rw [Option.some.inj hx]; exact hp
  ·have := h (xs[i]'(by omega)) (List.mem_take_iff_getElem.2 ⟨i, by omega, rfl⟩)
   simp [this]
 rw [this]
theorem dt {α : Type} {p : α → Bool} {xs : List α} (h : ∀ y ∈ xs, p y = false) : cl p xs = -1 := by
 unfold cl
 rw [List.findIdx?_eq_none_iff.2 h]
theorem ib {α : Type} (p : α → Bool) (xs : List α) : decide (0 ≤ cl p xs) = xs.any p := by
 unfold cl
 cases h : xs.findIdx? p with
 | none =>
  have := List.findIdx?_eq_none_iff.1 h
  simp only
  symm
  rw [show decide ((0 : Int) ≤ -1) = false by decide]
  exact List.any_eq_false.2 (fun x hx => by simp [this x hx])
 | some k =>
  obtain ⟨hlt, hk, _⟩ := List.findIdx?_eq_some_iff_getElem.1 h
  simp only
  rw [show decide ((0 : Int) ≤ (k : Int)) = true by simp]
  symm
  exact List.any_eq_true.2 ⟨_, List.getElem_mem hlt, hk⟩
theorem cN {α : Type} {L : List α} {i : Nat} {p : α} {P : α → Prop} (h : ∀ x ∈ L.take i, P x) (hp : L[i]? = some p) (hP : P p) : ∀ x ∈ L.take (i + 1), P x := by
 intro x hx
 rw [List.take_add_one, hp] at hx
 rcases List.mem_append.1 hx with hx | hx
 ·exact h x hx
 ·simp at hx; subst hx; exact hP
theorem aD {α : Type} {f : α → List Value} {z : Nat} (hf : ∀ a, (f a).length = z) {w : World} {ao : Option Addr} {N cap j : Nat} {xs : List α} {x : α} (h : Rd w z (.slice ao N cap) N (xs.flatMap f)) (hx : xs[j]? = some x) (hl : xs.length = N) : ∃ g o, ao = some ⟨g, o, none⟩ ∧ w.rangeAt g (o + j * z) (f x) := by
 have hlt := (List.getElem?_eq_some_iff.1 hx).1
 rcases h.2.2 with ⟨_, _, hv, _, _, _, hc⟩
 cases hv
 rcases hc with h0 | ⟨g, o, hg, hcell⟩
 ·omega
 ·refine ⟨g, o, hg, fun i u hu => ?_⟩
  rw [Nat.add_assoc]
  exact hcell _ _ (bF hf xs j x hx i u hu)
section
variable {P : Program} {w : World} {o : Oper} {a : Act}
theorem ag {ops : Array Oper} {rest : List Oper} {Q : Exit → Act → World → Prop} (hgd : o.guard = none) (ty : TypeId) (x : Operand) (ho : o.op = .load ty x) (b i : Nat) (hx : a.eval x = .pointer (some ⟨b, i, none⟩)) (cs : List Value)
  (hl : (loadVar ty ⟨b, i, none⟩).run P w = .ok (.agg cs.toArray) w) (h : wpList P ops Q rest (a.put o.dst (.agg cs.toArray)) w) : wpList P ops Q (o :: rest) a w :=
 wpList_plain hgd fun _ hK => by
  unfold Oper.wp execOp
  simp only [ho, hx, Instr.loadAt, Instr.sureAddr, Sem.run_bind, Sem.run_pure, Result.andThen_ok, hl]
  exact hK _ _ h
theorem aj {K : Act → Prop} (ty : TypeId) (x : Operand) (ho : o.op = .load ty x) (b i : Nat) (hx : a.eval x = .pointer (some ⟨b, i, none⟩)) (cs : List Value)
  (hl : (loadVar ty ⟨b, i, none⟩).run P w = .ok (.agg cs.toArray) w) (h : K (a.put o.dst (.agg cs.toArray))) : o.still P a w K := by
 unfold Oper.still execOp
 simp only [ho, hx, Instr.loadAt, Instr.sureAddr, Sem.run_bind, Sem.run_pure, Result.andThen_ok, hl]
 rw [Oper.stillUpon_value]
 exact h
end
theorem ai {w : World} {b : Nat} {cs : List Value} {t : TypeId} {fr : Nat × Nat} (h : w.heap[b]? = some (.cells cs.toArray t fr)) : w.rangeAt b 0 cs := fun j v hv => by
 rw [cell_of_row w b (0 + j) cs.toArray t fr h, Nat.zero_add]
 simpa using hv
theorem lR (w : World) (z cs : Array Value) (t : TypeId) : (w.alloc (.cells z t)).setRow w.heap.size cs = w.alloc (.cells cs t) := by
 unfold World.setRow World.alloc
 congr 1
 apply Array.ext_getElem?
 intro k
 simp only [Array.getElem?_modify, Array.getElem?_push]
 by_cases hk : k = w.heap.size
 ·subst hk; simp
 ·simp [hk, Ne.symm hk]
section
variable {P : Program} {B w : World} {D : PH} {l : List HP} {ops : Array Oper} {rest : List Oper} {o : Oper} {a : Act} {Q : Exit → Act → World → Prop}
theorem ax (hgd : o.guard = none) (ty : TypeId) (x y : Operand) (ho : o.op = .store ty x y)
  (cells : List Value) (z : Array Value) (t : TypeId) (hx : a.eval x = .pointer (some ⟨w.heap.size, 0, none⟩)) (hy : a.eval y = .agg cells.toArray) (hi : (P.info? ty).map (·.size) = some cells.length)
  (hold : z.size = cells.length) (h1 : ∀ u ∈ cells, u.oneCell' = true)
  (h : wpList P ops Q rest (a.put o.dst undef) (w.alloc (.cells cells.toArray t))) : wpList P ops Q (o :: rest) a (w.alloc (.cells z t)) :=
 wpList_store_row hgd ty x y ho w.heap.size cells.toArray hx hy t z (aB w _) (by simpa using hi) (by simpa using hold) (by simpa [List.all_eq_true] using h1) (by rw [lR]; exact h)
theorem bd (hgd : o.guard = none) (ty : TypeId) (x y : Operand) (ho : o.op = .store ty x y) (e : TypeId) (g off : Nat) (hx : a.eval x = .pointer (some ⟨g, off, none⟩)) (cs : List Value) (hy : a.eval y = .agg cs.toArray) (cur : List Value) (hs : Sat B D w (blk g cur.toArray e :: l))
  (hi : (P.info? ty).map (·.size) = some cs.length) (hfit : off + cs.length ≤ cur.length) (h1 : ∀ u ∈ cs, u.oneCell' = true)
  (h : ∀ w', Sat B D w' (blk g (lay cur off cs).toArray e :: l) → wpList P ops Q rest (a.put o.dst undef) w') : wpList P ops Q (o :: rest) a w :=
 wpList_plain hgd fun _ hK => by
  have hst := run_storeCells_at P g off e cs 0 cur.toArray w hs.heap_blk (by simpa using hfit) h1
  simp only [Nat.add_zero] at hst
  have hsz : ∃ i, P.info? ty = some i ∧ i.size = cs.length := by
   cases hq : P.info? ty with
   | none => rw [hq] at hi; cases hi
   | some i => exact ⟨i, rfl, by rw [hq] at hi; simpa using hi⟩
  obtain ⟨i, hq, hsi⟩ := hsz
  have hrun : (storeVar ty ⟨g, off, none⟩ (.agg cs.toArray)).run P w = .ok () (w.setRow g (lay cur off cs).toArray) := by
   simp [storeVar, sizeOf, typeInfo, hq, hsi, Value.cells, hst, lay]
  unfold Oper.wp execOp
  simp only [ho, hx, hy, Instr.storeAt, Instr.sureAddr, Sem.run_bind, Sem.run_pure, Result.andThen_ok, hrun]
  exact hK _ _ (h _ (hs.setRow _))
theorem sH {α : Type} {f : α → List Value} {z : Nat} (hf : ∀ a, (f a).length = z) {xs : List α} {i : Nat} {x : α} (hi : i < xs.length) : ((xs.set i x).flatMap f) = lay (xs.flatMap f) (i * z) (f x) := by
 unfold lay
 rw [hf, cF hf, show i * z + z = (i + 1) * z by rw [Nat.succ_mul], fq hf, List.set_eq_take_append_cons_drop, if_pos hi]
 simp
theorem rk {cur cs : List Value} {off n : Nat} (h : off + cs.length ≤ n) (hn : n ≤ cur.length) : (lay cur off cs).take n = lay (cur.take n) off cs := by
 unfold lay
 rw [List.append_assoc, List.take_append, List.take_append, List.length_take, List.take_take]
 rw [show min off cur.length = off by omega]
 rw [show min n off = off by omega, List.take_of_length_le (l := cs) (by omega)]
 rw [List.take_take, show min off n = off by omega, List.append_assoc]
 congr 2
 rw [List.drop_take]
 congr 1
 omega
theorem ct {α : Type} {f : α → List Value} {z : Nat} (hf : ∀ a, (f a).length = z) (hone : ∀ a, ∀ u ∈ f a, u.oneCell' = true) (hgd : o.guard = none) (ty : TypeId) (x y : Operand) (ho : o.op = .store ty x y) (e : TypeId) (g off i n cap : Nat) (hx : a.eval x = .pointer (some ⟨g, off, none⟩)) (hoff : off = i * z) (b : α) (hy : a.eval y = .agg (f b).toArray) (xs : List α)
  (hs : Sat B D w (aJ e z (.slice (some ⟨g, 0, none⟩) n cap) n (xs.flatMap f) :: l)) (hi : (P.info? ty).map (·.size) = some z) (hin : i < n) (hn : xs.length = n)
  (h : ∀ w', Sat B D w' (aJ e z (.slice (some ⟨g, 0, none⟩) n cap) n ((xs.set i b).flatMap f) :: l) → wpList P ops Q rest (a.put o.dst undef) w') : wpList P ops Q (o :: rest) a w := by
 subst hoff
 obtain ⟨cur, hb, h1, h2, h3, h4, h5, h6⟩ := hs.own_row
 have hle : i * z + z ≤ n * z := by rw [← Nat.succ_mul]; exact Nat.mul_le_mul_right _ hin
 have hnc : n * z ≤ cap * z := Nat.mul_le_mul_right _ h1
 refine bd hgd ty x y ho e g (i * z) hx (f b) hy cur hb (by rw [hf]; exact hi) (by rw [hf]; omega) (hone b) (fun w' hs' => h w' ?_)
 refine hs'.row_own h1 h2 (by rw [ep _ _ _ (by rw [hf]; omega)]; exact h3) ?_ (fun u hu => ?_)
 ·rw [rk (by rw [hf]; omega) (by omega), h4, sH hf (by omega)]
 ·obtain ⟨a', _, hu⟩ := List.mem_flatMap.1 hu
  exact hone a' u hu
end
theorem eo {α : Type} {ys : List α} {i : Nat} {x : α} (h : i < ys.length) : (ys.set i x).take (i + 1) = ys.take i ++ [x] := by
 rw [List.set_eq_take_append_cons_drop, if_pos h, List.take_append, List.take_of_length_le (by rw [List.length_take]; omega), List.length_take, Nat.min_eq_left (by omega), show i + 1 - i = 1 by omega]
 rfl
theorem m0 : ∀ (cs : List Value) (k : Nat) (A : Array Value), k + cs.length ≤ A.size → ((cs.zipIdx k).foldl (fun (A : Array Value) (x : Value × Nat) => A.setIfInBounds (0 + x.2) x.1) A).toList = lay A.toList k cs
 | [], k, A, _ => by unfold lay; simp
 | c :: cs, k, A, h => by
  simp only [List.length_cons] at h
  rw [List.zipIdx_cons, List.foldl_cons, m0 cs (k + 1) _ (by simp; omega)]
  unfold lay
  simp only [Nat.zero_add, Array.toList_setIfInBounds, List.length_cons]
  rw [eo (by simp; omega), List.drop_set, if_pos (by omega), show k + 1 + cs.length = k + (cs.length + 1) by omega]
  simp
theorem kL {P : Program} (w : World) (t e : TypeId) (i : TypeInfo) (z : Value) (cs : List Value) (ht : P.underlying t = some (.slice e)) (hi : P.info? e = some i) (hz : i.zero = some z) (hsize : i.size = cs.length) (hpos : 0 < cs.length) (hle : cs.length ≤ 1000) :
  (Instr.buildSlice t 1 #[(0, .agg cs.toArray)]).run P w = .ok (.slice (some ⟨w.heap.size, 0, none⟩) 1 1) (w.alloc (.cells cs.toArray e)) := by
 have hf : ∀ A : Array Value, A.size = cs.length → cs.zipIdx.foldl (fun (cs : Array Value) (x : Value × Nat) => cs.setIfInBounds x.2 x.1) A = cs.toArray := by
  intro A hA
  apply Array.toList_inj.1
  have := m0 cs 0 A (by omega)
  simp only [Nat.zero_add] at this
  rw [this]
  unfold lay
  simp [hA]
 have hne : cs.length ≠ 0 := by omega
 have h24 : ¬ (16777216 < cs.length) := by omega
 simp [Instr.buildSlice, run_underlying ht, sizeOf, typeInfo, zeroValue, hi, hz, hsize, Instr.fill, Value.cells, newRow, hne, h24]
 congr 2
 exact hf _ (by simp)
theorem aC {P : Program} {ops : Array Oper} {rest : List Oper} {o : Oper} {a : Act} {w : World} {Q : Exit → Act → World → Prop} (hgd : o.guard = none) (t : TypeId) (x : Operand) (ho : o.op = .buildSlice t 1 #[(0, x)]) (e : TypeId) (i : TypeInfo) (z : Value) (cs : List Value) (hx : a.eval x = .agg cs.toArray) (ht : P.underlying t = some (.slice e)) (hi : P.info? e = some i) (hz : i.zero = some z) (hsize : i.size = cs.length) (hpos : 0 < cs.length) (hle : cs.length ≤ 1000)
  (h : wpList P ops Q rest (a.put o.dst (.slice (some ⟨w.heap.size, 0, none⟩) 1 1)) (w.alloc (.cells cs.toArray e))) : wpList P ops Q (o :: rest) a w :=
 wpList_plain hgd fun _ hK => by
  have hrun := kL w t e i z cs ht hi hz hsize hpos hle
  unfold Oper.wp execOp
  simp only [ho, List.map_toArray, List.map_cons, List.map_nil, hx, Sem.run_bind, Sem.run_pure, Result.andThen_ok, hrun]
  exact hK _ _ h
@[go_sem] theorem run_makeFunc (P : Program) (fn : Fn) (first cap : Array Value) (w : World) : (Instr.makeFunc fn first cap).run P w = .ok (.func fn first cap) w := rfl
theorem aO {α : Type} {q : α → Bool} {L : List α} {j : Nat} {x : α} (hx : L[j]? = some x) (hp : q x = true) : (L.take (j + 1)).filter q = (L.take j).filter q ++ [x] := by
 rw [List.take_add_one, hx, List.filter_append]; simp [hp]
theorem aQ {α : Type} {q : α → Bool} {L : List α} {j : Nat} {x : α} (hx : L[j]? = some x) (hp : q x = false) : (L.take (j + 1)).filter q = (L.take j).filter q := by
 rw [List.take_add_one, hx, List.filter_append]; simp [hp]
def PredS (B : World) (D : PH) (l : List HP) (F : Nat) (caps : Array Value) (cs : List Value) (p : Bool) : Prop := ∀ (W : World) (X : List HP), Sat B D W (X ++ l) → Calls Tryz.prog F (#[.agg cs.toArray] ++ caps) W fun e W' => e = .returned (.bool p) ∧ Kept (fun _ => False) W W'
theorem bQ {W : World} {b1 : Nat} {c1 : Array Value} {t1 : TypeId} (h1 : W.heap[b1]? = some (.cells c1 t1 (0, 0))) (cs : Array Value) (t : TypeId) : ∃ W1, W1 = W.alloc (.cells cs t) ∧ Kept (fun _ => False) W W1 ∧ W1.heap[W.heap.size]? = some (.cells cs t (0, 0)) ∧ W1.heap[b1]? = some (.cells c1 t1 (0, 0)) :=
 ⟨_, rfl, (Kept.refl _ _).alloc _, aB W _, db h1⟩
theorem aA {w W : World} {b : Nat} {ob : Obj} (k : Kept (fun _ => False) w W) (h : w.heap[b]? = some ob) : W.heap[b]? = some ob := (k.block b (aI h) (fun h => h)).trans h
theorem ev {w W : World} {b : Nat} {cs : Array Value} {t : TypeId} (k : Kept (fun _ => False) w W) (h : w.heap[b]? = some (.cells cs t (0, 0))) : W.heap[b]? = some (.cells cs t (0, 0)) := aA k h
theorem gX (w : World) (c1 c2 : Array Value) (t1 t2 : TypeId) : ∃ W, W = (w.alloc (.cells c1 t1)).alloc (.cells c2 t2) ∧ Kept (fun _ => False) w W ∧ W.heap[w.heap.size]? = some (.cells c1 t1 (0, 0)) ∧ W.heap[w.heap.size + 1]? = some (.cells c2 t2 (0, 0)) := by
 have z1 : (w.alloc (.cells c1 t1)).heap.size = w.heap.size + 1 := Array.size_push ..
 have a1 := aB (w.alloc (.cells c1 t1)) (.cells c2 t2)
 rw [z1] at a1
 exact ⟨_, rfl, ((Kept.refl _ _).alloc _).alloc _, db (aB w _), a1⟩
theorem sE (w : World) (c1 c2 c3 : Array Value) (t1 t2 t3 : TypeId) : ∃ W, W = ((w.alloc (.cells c1 t1)).alloc (.cells c2 t2)).alloc (.cells c3 t3) ∧ Kept (fun _ => False) w W ∧ W.heap[w.heap.size]? = some (.cells c1 t1 (0, 0)) ∧ W.heap[w.heap.size + 1]? = some (.cells c2 t2 (0, 0)) ∧ W.heap[w.heap.size + 1 + 1]? = some (.cells c3 t3 (0, 0)) := by
 have z1 : (w.alloc (.cells c1 t1)).heap.size = w.heap.size + 1 := Array.size_push ..
 have z2 : ((w.alloc (.cells c1 t1)).alloc (.cells c2 t2)).heap.size = w.heap.size + 1 + 1 := (Array.size_push ..).trans (by rw [z1])
 have a1 := aB (w.alloc (.cells c1 t1)) (.cells c2 t2)
 have a2 := aB ((w.alloc (.cells c1 t1)).alloc (.cells c2 t2)) (.cells c3 t3)
 rw [z1] at a1
 rw [z2] at a2
 exact ⟨_, rfl, (((Kept.refl _ _).alloc _).alloc _).alloc _, db (db (aB w _)), db a1, a2⟩
theorem more_lt {C : Type} {l : List (Ent C)} {k : Nat} {x : Ent C} (h : k < ce l) (hx : l[k]? = some x) : x.more = true := by
 refine ls (l := l) ?_
 obtain ⟨hlt, rfl⟩ := List.getElem?_eq_some_iff.1 hx
 exact List.mem_take_iff_getElem.2 ⟨k, by omega, rfl⟩
theorem pq {C : Type} : ∀ {l : List (Ent C)} {k : Nat} {x : Ent C}, k = ce l → l[k]? = some x → x.more = false
 | [], k, x, _, hx => by simp at hx
 | y :: l, k, x, h, hx => by
  unfold ce at h
  cases hy : y.more
  ·rw [List.takeWhile_cons_of_neg (by simp [hy])] at h
   subst h
   simp at hx
   rw [← hx]; exact hy
  ·rw [List.takeWhile_cons_of_pos (by simp [hy])] at h
   subst h
   simp only [List.length_cons, List.getElem?_cons_succ] at hx
   exact pq (l := l) rfl hx
theorem gL {C : Type} {R : Rul C} (l : List (Ent C)) (o : Int) (c : C) : (∃ k, cB R l o c = some k ∧ cl (cw R o c) l = (k : Int) ∧ k < l.length) ∨ (cB R l o c = none ∧ cl (cw R o c) l = -1) := by
 unfold cB cl
 cases h : l.findIdx? (cw R o c) with
 | none => exact .inr ⟨rfl, rfl⟩
 | some k =>
  obtain ⟨hlt, _⟩ := List.findIdx?_eq_some_iff_getElem.1 h
  exact .inl ⟨k, rfl, rfl, hlt⟩
theorem kA {C : Type} {R : Rul C} {l : List (Ent C)} {e : Ent C} {k : Nat} (h : cB R l e.o e.c = some k) : bX R l e = l.set k e.less := by unfold bX; rw [h]
theorem ka {C : Type} {R : Rul C} {l : List (Ent C)} {e : Ent C} (h : cB R l e.o e.c = none) : bX R l e = l ++ [e.less] := by unfold bX; rw [h]
theorem Sat.set5 {B w : World} {D : PH} {l : List HP} {b : Nat} {t : TypeId} {y0 y1 y2 y3 y4 y5 : Value} (hs : Sat B D w (Proofs.YtgljdkjepdknnaaGreatDoor.blk b #[y0, y1, y2, y3, y4, y5] t :: l)) (u : Value) : Sat B D (w.setCell ⟨b, 4, none⟩ u) (Proofs.YtgljdkjepdknnaaGreatDoor.blk b #[y0, y1, y2, y3, u, y5] t :: l) := hs.set 4 u
theorem Sat.set6 {B w : World} {D : PH} {l : List HP} {b : Nat} {t : TypeId} {y0 y1 y2 y3 y4 y5 : Value} (hs : Sat B D w (Proofs.YtgljdkjepdknnaaGreatDoor.blk b #[y0, y1, y2, y3, y4, y5] t :: l)) (u : Value) : Sat B D (w.setCell ⟨b, 5, none⟩ u) (Proofs.YtgljdkjepdknnaaGreatDoor.blk b #[y0, y1, y2, y3, y4, u] t :: l) := hs.set 5 u
theorem Rd.takeE {α : Type} {f : α → List Value} {z : Nat} (hf : ∀ a, (f a).length = z) {w : World} {ao : Option Addr} {n cap m : Nat} {xs : List α} (h : Rd w z (.slice ao n cap) n (xs.flatMap f)) (hm : m ≤ n) (hl : xs.length = n) : Rd w z (.slice ao m cap) (xs.take m).length ((xs.take m).flatMap f) := by
 obtain ⟨h1, h2, ao', cap', h3, h4, h5, h6, h7⟩ := h
 cases h3
 have e1 : (xs.take m).length = m := by rw [List.length_take]; omega
 rw [e1]
 refine ⟨by rw [ez hf, e1], by omega, ao, cap, rfl, by omega, h5, h6, ?_⟩
 rcases h7 with h7 | ⟨g, o, rfl, h8⟩
 ·exact .inl (by omega)
 ·refine .inr ⟨g, o, rfl, fun j u hu => ?_⟩
  rw [← cF hf, List.getElem?_take] at hu
  split at hu
  ·exact h8 j u hu
  ·cases hu
theorem jB {C : Type} {R : Rul C} {q : Qm C} {o : Int} {c : C} {b : Bool} {e : Ent C} {i : Nat} (hw : (b8 q.waits o).isSome = false) (ha : cL R q o c = some (e, i)) : aV R q o c b = if dB R q o e.c (q.waits.take i) then (ci R q e, true) else if b then (⟨q.held, q.waits.take i ++ [e] ++ q.waits.drop i⟩, false) else (q, false) := by
 unfold aV; rw [hw, ha]; simp
theorem nK {C : Type} (l : List (Ent C)) (o : Int) : ((b8 l o).isSome = true ∧ 0 ≤ cl (ofE o) l) ∨ ((b8 l o).isSome = false ∧ cl (ofE o) l = -1) := by
 unfold b8 cl
 cases h : l.findIdx? (ofE o) with
 | none => exact .inr ⟨rfl, rfl⟩
 | some k => exact .inl ⟨rfl, by dsimp only; omega⟩
theorem mV {α : Type} {f : α → List Value} {z : Nat} (hf : ∀ a, (f a).length = z) (xs : List α) (i : Nat) (x : α) : (xs.flatMap f).take (i * z) ++ f x ++ (xs.flatMap f).drop (i * z) = (xs.take i ++ [x] ++ xs.drop i).flatMap f := by
 rw [cF hf, fq hf]; simp
theorem jU {C : Type} {R : Rul C} {q : Qm C} {i : Nat} (hlt : i < q.waits.length) (h : ∀ j, j < i → et R q j = false) (hi : et R q i = true) : bl R q = some i := by
 unfold bl
 rw [List.find?_range_eq_some]
 exact ⟨hi, by simpa using hlt, fun j hj => by simp [h j hj]⟩
theorem kl {C : Type} {R : Rul C} {q : Qm C} (h : ∀ j, j < q.waits.length → et R q j = false) : bl R q = none := by
 unfold bl
 rw [List.find?_eq_none]
 intro j hj
 simp [h j (by simpa using hj)]
theorem od {C : Type} {R : Rul C} {q : Qm C} {i : Nat} {e : Ent C} (h : q.waits[i]? = some e) : et R q i = dB R q e.o e.c (q.waits.take i) := by unfold et; rw [h]
theorem lk {α : Type} {f : α → List Value} {z : Nat} (hf : ∀ a, (f a).length = z) (xs : List α) (i : Nat) : (xs.flatMap f).take (i * z) ++ (xs.flatMap f).drop ((i + 1) * z) = (xs.eraseIdx i).flatMap f := by
 rw [cF hf, fq hf, List.eraseIdx_eq_take_drop_succ, List.flatMap_append]
theorem fF {C : Type} {R : Rul C} (l : List (Ent C)) (e : Ent C) : (bX R l e).length ≤ l.length + 1 := by
 unfold bX
 split <;> simp
theorem jA : (Tryz.prog.info? 3).map (fun i => (i.zero, i.size, i.bytes)) = some (some (.int .i64 0), 1, 8) := by kernel_rfl
abbrev cq (v : Value) (l : List Int) : HP := aJ 3 1 v l.length (l.map (Value.int .i64))
def fI (q : Nat) (w : World) : Nat := match w.cell? ⟨q, 5, none⟩ with
 | some (.slice _ n _) => n
 | _ => 0
theorem PredS.more {B : World} {D : PH} {l : List HP} {F : Nat} {caps : Array Value} {cs : List Value} {p : Bool} (h : PredS B D l F caps cs p) (Y : List HP) : PredS B D (Y ++ l) F caps cs p := fun W X hs => h W (X ++ Y) (by rw [List.append_assoc]; exact hs)
theorem Sat.rm2 {B w : World} {D : PH} {l : List HP} {A C E : HP} (hs : Sat B D w (A :: C :: E :: l)) : Sat B D w (A :: C :: l) := hs.rot.rot.drop
theorem cy {B w : World} {D : PH} {l : List HP} (hs : Sat B D w l) (c1 c2 : Array Value) (t1 t2 : TypeId) : ∃ W, W = (w.alloc (.cells c1 t1)).alloc (.cells c2 t2) ∧ Sat B D W (blk w.heap.size c1 t1 :: blk (w.heap.size + 1) c2 t2 :: l) := by
 have h := ((hs.alloc c1 t1).alloc c2 t2)
 rw [World.size_alloc] at h
 exact ⟨_, rfl, h.swap⟩
end Go.Proofs.YtgljdkjepdknnaaGreatDoor
