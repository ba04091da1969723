/- Joined texts: Plain laws: what the steps of a script of small claims keep to. Locks as data: who holds what, and why; what their functions come to. Reasons as bits, and reasons one by one: what each step does to both. Reasons as bits, and reasons one by one: noting; the document's rows. Reasons as bits, and reasons one by one: whether there is one; forgetting; ending all. A table in the place of rows, as data. No owner holds two that are the same. What there must be room for: asking and giving. What there must be room for: dropping does not raise it. Never more than there is room for, as data. Who waits for more of what they hold counts twice. -/
import Derived.Test.YtgljdkjepdknnaaGreatDoorMR23
import Derived.Test.YtgljdkjepdknnaaGreatDoorMR25
import Derived.Test.YtgljdkjepdknnaaGreatDoorMR19
import Derived.Test.YtgljdkjepdknnaaGreatDoorMR14
import Derived.Test.YtgljdkjepdknnaaGreatDoorMR17
/- Plain laws: what the steps of a script of small claims keep to. -/
namespace Go.Proofs.YtgljdkjepdknnaaGreatDoor
set_option linter.unusedSimpArgs false

def EntOk (n : Nat) (o : Int) (c : Clm) : Prop := (0 ≤ o ∧ o ≤ 7) ∧ ClmFit c ∧ ClmSm (6 * n) c
theorem EntOk.mono {n m : Nat} {o : Int} {c : Clm} (h : EntOk n o c) (hm : n ≤ m) : EntOk m o c := ⟨h.1, h.2.1, h.2.2.mono (by omega)⟩
theorem EntOk.sm {n : Nat} {o : Int} {c : Clm} (h : EntOk n o c) (hn : n ≤ 1000) : ClmSm 1000000 c := h.2.2.mono (by omega)
theorem AllE.mono {C : Type} {P P' : Int → C → Prop} {q : Qm C} (h : AllE P q) (f : ∀ o c, P o c → P' o c) : AllE P' q := ⟨fun e he => f _ _ (h.1 e he), fun e he => f _ _ (h.2 e he)⟩
/-- as ask_all, from one measure to the next -/
theorem ask_all2 {C : Type} {R : Rul C} {P P' : Int → C → Prop} {q : Qm C} (h : AllE P q) (hm : ∀ o c, P o c → P' o c) (o : Int) (c : C) (b : Bool) (hc : P' o c) (hj : ∀ x, P o x → P' o (R.join x c)) : AllE P' (askQ R q o c b).1 := by
 unfold askQ
 have h' := h.mono hm
 split
 ·exact h'
 ·split
  ·exact h'
  ·rename_i e i he
   obtain ⟨ho, _, hm⟩ := askFor_o he
   have hP : P' e.o e.c := by
    rcases hm with ⟨_, _, hc', _⟩ | ⟨_, _, k, x, hk, hx, _, hc'⟩
    ·rw [ho, hc']; exact hc
    ·rw [ho, hc']
     refine hj _ ?_
     have h1 := h.1 x (List.mem_of_getElem? hx)
     obtain ⟨y, hy, hyo, _, _⟩ := own_at hk
     rw [hx] at hy
     obtain rfl := Option.some.inj hy
     rw [← hyo]; exact h1
   split
   ·exact ⟨give_all h'.1 hP, h'.2⟩
   ·split
    ·refine ⟨h'.1, fun x hx => ?_⟩
     rcases List.mem_append.1 hx with hx | hx
     ·rcases List.mem_append.1 hx with hx | hx
      ·exact h'.2 x (List.mem_of_mem_take hx)
      ·obtain rfl := List.mem_singleton.1 hx; exact hP
     ·exact h'.2 x (List.mem_of_mem_drop hx)
    ·exact h'
theorem ask_len {C : Type} {R : Rul C} (q : Qm C) (o : Int) (c : C) (b : Bool) : (askQ R q o c b).1.held.length + (askQ R q o c b).1.waits.length ≤ q.held.length + q.waits.length + 1 := by
 unfold askQ
 split
 ·exact Nat.le_succ _
 ·split
  ·exact Nat.le_succ _
  ·rename_i e i he
   split
   ·have := giveL_len (R := R) q.held e
    show (giveL R q.held e).length + q.waits.length ≤ _
    omega
   ·split
    ·show q.held.length + (q.waits.take i ++ [e] ++ q.waits.drop i).length ≤ _
     rw [List.append_assoc, List.length_append, List.length_append, List.length_take, List.length_drop, List.length_singleton]
     omega
    ·exact Nat.le_succ _
theorem moved_le {C : Type} {R : Rul C} (q : Qm C) : (movedQ R q).1.held.length + (movedQ R q).1.waits.length ≤ q.held.length + q.waits.length :=
 moveQ_ind (P := fun p => p.held.length + p.waits.length ≤ q.held.length + q.waits.length) (fun p i e h hf he => by
  have hlt := (List.getElem?_eq_some_iff.1 he).1
  have := giveL_len (R := R) p.held e
  show (giveL R p.held e).length + (p.waits.eraseIdx i).length ≤ _
  rw [List.length_eraseIdx_of_lt hlt]
  omega) _ _ (Nat.le_refl _)
theorem imgJoin_or {l m : List (List Val)} : ∀ r ∈ imgJoin l m, r ∈ l ∨ r ∈ m := by
 unfold imgJoin
 induction m generalizing l with
 | nil => intro r h; exact .inl h
 | cons x m ih =>
  intro r h
  rcases ih r h with h1 | h1
  ·dsimp only at h1
   split at h1
   ·exact .inl h1
   ·rcases List.mem_append.1 h1 with h1 | h1
    ·exact .inl h1
    ·exact .inr (by rw [List.mem_singleton.1 h1]; simp)
  ·exact .inr (List.mem_cons_of_mem _ h1)
theorem join_fit {h c : Clm} (hh : ClmFit h) (hc : ClmFit c) : ClmFit (clmJoin h c) := by
 unfold clmJoin
 split
 ·exact ⟨hh.1, fun r hr z hz => (imgJoin_or r hr).elim (fun h1 => hh.2 r h1 z hz) (fun h1 => hc.2 r h1 z hz)⟩
 ·exact hh
theorem join_ok {n : Nat} {o : Int} {h c : Clm} (hh : EntOk n o h) (hc : ClmFit c) (hf : fewB c = true) : EntOk (n + 1) o (clmJoin h c) := by
 obtain ⟨ho, hfit, hl, hr, hp⟩ := hh
 obtain ⟨c1, c2, _⟩ := few_sm hf
 refine ⟨ho, join_fit hfit hc, ?_⟩
 unfold clmJoin
 split
 ·refine ⟨?_, fun r hr' => ?_, hp⟩
  ·have := (imgJoin_len h.imgs c.imgs).2
   show (imgJoin h.imgs c.imgs).length ≤ _
   omega
  ·rcases imgJoin_or r hr' with h1 | h1
   ·exact hr r h1
   ·exact c2 r h1
 ·exact ⟨Nat.le_trans hl (by omega), hr, hp⟩
theorem waitsQ_snd (Q : Qm Clm) (o : Int) : (waitsQ Q o).2 = (waitAt Q.waits o).isSome := by
 unfold waitsQ
 split
 ·rename_i k h
  obtain ⟨e, he, _⟩ := waitAt_get h
  rw [h, he]; rfl
 ·rename_i h; rw [h]; rfl
structure ScOk (n : Nat) (Q : Qm Clm) : Prop where
 ok : QOk Q
 all : AllE (EntOk n) Q
 len : Q.held.length + Q.waits.length ≤ n
theorem ScOk.mono {n m : Nat} {Q : Qm Clm} (h : ScOk n Q) (hm : n ≤ m) : ScOk m Q := ⟨h.ok, h.all.mono (fun _ _ h => h.mono hm), Nat.le_trans h.len hm⟩
theorem ask_sc {n : Nat} {Q : Qm Clm} (h : ScOk n Q) {o : Int} (ho : 0 ≤ o ∧ o ≤ 7) {c : Clm} (hc : ClmFit c) (hf : fewB c = true) (b : Bool) : ScOk (n + 1) (askQ RC Q o c b).1 := by
 obtain ⟨c1, c2, c3⟩ := few_sm hf
 exact ⟨ask_ok h.ok o c b, ask_all2 h.all (fun _ _ h => h.mono (Nat.le_succ _)) o c b ⟨ho, hc, Nat.le_trans c1 (by omega), c2, c3⟩ (fun x hx => join_ok hx hc hf), Nat.le_trans (ask_len Q o c b) (by have := h.len; omega)⟩
theorem drop_sc {n : Nat} {Q : Qm Clm} (h : ScOk n Q) (g : Ent Clm → Bool) : ScOk n (dropQ RC Q g).1 :=
 ⟨drop_ok h.ok g, drop_all h.all g, Nat.le_trans (moved_le _) (by have := List.length_filter_le (fun e => !g e) Q.held; have := h.len; show (Q.held.filter (fun e => !g e)).length + Q.waits.length ≤ n; omega)⟩
theorem leave_sc {n : Nat} {Q : Qm Clm} (h : ScOk n Q) (o : Int) : ScOk n (leaveQ RC Q o).1 :=
 ⟨leave_ok h.ok o, leave_all h.all o, Nat.le_trans (moved_le _) (by have := List.length_filter_le (fun e => !ofE o e) Q.waits; have := h.len; show Q.held.length + (Q.waits.filter (fun e => !ofE o e)).length ≤ n; omega)⟩
/-! plain claims -/
end Go.Proofs.YtgljdkjepdknnaaGreatDoor

/- Locks as data: who holds what, and why; what their functions come to. -/
namespace Go.Proofs.YtgljdkjepdknnaaGreatDoor
set_option linter.unusedSimpArgs false

/-- why an owner has a claim: a bit each -/
structure Rsn where
 o : Int
 c : Clm
 why : Int
structure LkM where
 q : Qm Clm
 why : List Rsn
noncomputable def ofR (o : Int) (c : Clm) (r : Rsn) : Bool := decide (r.o = o) && RC.same r.c c
noncomputable def atR (l : List Rsn) (o : Int) (c : Clm) : Option Nat := l.findIdx? (ofR o c)
def orR (w : Int) (r : Rsn) : Rsn := ⟨r.o, r.c, bits .or .u8 r.why w⟩
noncomputable def noteR (l : List Rsn) (o : Int) (c : Clm) (w : Int) : List Rsn := match atR l o c with
 | some k => match l[k]? with
  | some r => l.set k (orR w r)
  | none => l
 | none => l ++ [⟨o, c, w⟩]
def lessR (o w : Int) (r : Rsn) : Rsn := if r.o = o then ⟨r.o, r.c, bits .andNot .u8 r.why w⟩ else r
def overR (l : List Rsn) (o w : Int) : List Rsn := (l.map (lessR o w)).filter (fun r => !decide (r.why = 0))
def forgetR (l : List Rsn) (o : Int) (p : Clm → Bool) : List Rsn := l.filter (fun r => !(decide (r.o = o) && p r.c))
noncomputable def hasK (m : LkM) (o : Int) (c : Clm) : Bool := (holdsQ m.q o).any (fun h => RC.same h c)
noncomputable def dropK (m : LkM) (o : Int) (p : Clm → Bool) : LkM × List Int :=
 (⟨(dropQ RC m.q (goneP o ((holdsQ m.q o).filter p))).1, m.why⟩, (dropQ RC m.q (goneP o ((holdsQ m.q o).filter p))).2)
noncomputable def overK (m : LkM) (o w : Int) : LkM × List Int := dropK ⟨m.q, overR m.why o w⟩ o (fun c => (atR (overR m.why o w) o c).isNone)
noncomputable def endK (m : LkM) (o : Int) : LkM × List Int :=
 (⟨(dropQ RC (leaveQ RC m.q o).1 (ofE o)).1, forgetR m.why o (fun _ => true)⟩, (leaveQ RC m.q o).2 ++ (dropQ RC (leaveQ RC m.q o).1 (ofE o)).2)
noncomputable def leaveK (m : LkM) (o : Int) : LkM × List Int :=
 (⟨(leaveQ RC m.q o).1, if (waitsQ m.q o).2 && !hasK m o (waitsQ m.q o).1 then forgetR m.why o (fun d => RC.same d (waitsQ m.q o).1) else m.why⟩, (leaveQ RC m.q o).2)
/-- the bit of a reason; 0: it is none -/
def bitK (dur hand : Int) : Int := if dur = 1 then 1 else if dur = 3 then 8 else if dur = 2 ∧ 1 ≤ hand ∧ hand ≤ 2 then (if hand = 1 then 2 else 4) else 0
/-- asking; ok: whether the claim may be -/
noncomputable def askK (m : LkM) (room : Int) (ok : Bool) (o : Int) (c : Clm) (dur hand : Int) : LkM × Bool × Int :=
 if !ok || decide (bitK dur hand = 0) then (m, false, 111) else
 if (waitsQ m.q o).2 then (m, false, 110) else
 if !hasK m o c && decide (room ≤ ((m.q.held.length + m.q.waits.length : Nat) : Int)) then (m, false, 62) else
 (⟨(askQ RC m.q o c true).1, noteR m.why o c (bitK dur hand)⟩, (askQ RC m.q o c true).2, 0)

/-! one owner, one claim -/
end Go.Proofs.YtgljdkjepdknnaaGreatDoor

/- Reasons as bits, and reasons one by one: what each step does to both. -/
namespace Go.Proofs.YtgljdkjepdknnaaGreatDoor
set_option linter.unusedSimpArgs false

/-- one reason, as the document has it -/
structure Rea where
 o : Int
 c : Clm
 dur : Int
 hand : Int
end Go.Proofs.YtgljdkjepdknnaaGreatDoor

/- Reasons as bits, and reasons one by one: noting; the document's rows. -/
namespace Go.Proofs.YtgljdkjepdknnaaGreatDoor
set_option linter.unusedSimpArgs false

theorem same_of {a b c : Clm} (h : RC.same a b = true) : RC.same a c = RC.same b c := by
 show clmSame a c = clmSame b c
 rw [clmSame_sym a c, clmSame_sym b c]
 exact clmSame_trans h
/-! the document's -/
def overE (l : List Rea) (o dur hand : Int) : List Rea := l.filter (fun x => decide (x.o ≠ o) || decide (x.dur ≠ dur) || decide (x.hand ≠ hand))
end Go.Proofs.YtgljdkjepdknnaaGreatDoor

/- Reasons as bits, and reasons one by one: whether there is one; forgetting; ending all. -/
namespace Go.Proofs.YtgljdkjepdknnaaGreatDoor
set_option linter.unusedSimpArgs false

noncomputable def reasonE (m : List Rea) (o : Int) (c : Clm) : Bool := m.any (fun x => decide (x.o = o) && RC.same x.c c)
noncomputable def withoutE (m : List Rea) (o : Int) (c : Clm) : List Rea := m.filter (fun x => decide (x.o ≠ o) || !RC.same x.c c)
def endE (m : List Rea) (o : Int) : List Rea := m.filter (fun x => decide (x.o ≠ o))
end Go.Proofs.YtgljdkjepdknnaaGreatDoor

/- A table in the place of rows, as data. -/
namespace Go.Proofs.YtgljdkjepdknnaaGreatDoor
set_option linter.unusedSimpArgs false

end Go.Proofs.YtgljdkjepdknnaaGreatDoor

/- No owner holds two that are the same. -/
namespace Go.Proofs.YtgljdkjepdknnaaGreatDoor
set_option linter.unusedSimpArgs false

/-- what there must be room for: what is held, and what is waited for by who doesn't hold the same -/
noncomputable def costQ (q : Qm Clm) : Nat := q.held.length + (q.waits.filter (fun w => (ownAt RC q.held w.o w.c).isNone)).length
theorem cost_le (q : Qm Clm) : costQ q ≤ q.held.length + q.waits.length := by
 have := List.length_filter_le (fun w => (ownAt RC q.held w.o w.c).isNone) q.waits
 unfold costQ
 omega
/-- giving loses no owner's thing -/
theorem give_owns {l : List (Ent Clm)} (e : Ent Clm) (o : Int) (c : Clm) (h : (ownAt RC (giveL RC l e) o c).isNone = true) : (ownAt RC l o c).isNone = true := by
 rw [Option.isNone_iff_eq_none] at h ⊢
 unfold ownAt at h ⊢
 rw [List.findIdx?_eq_none_iff] at h ⊢
 intro x hx
 obtain ⟨i, hi, rfl⟩ := List.mem_iff_getElem.1 hx
 unfold giveL at h
 split at h
 ·rename_i k hk
  obtain ⟨y, hy, hyo, hys, hlt⟩ := own_at hk
  obtain ⟨_, rfl⟩ := List.getElem?_eq_some_iff.1 hy
  by_cases hik : i = k
  ·subst hik
   have h1 := h e.less (List.mem_iff_getElem.2 ⟨i, by simpa using hi, by simp⟩)
   unfold sameE at h1 ⊢
   have h2 : RC.same e.less.c c = RC.same l[i].c c := (same_of hys).symm
   rw [h2] at h1
   have h3 : e.less.o = l[i].o := hyo.symm
   rw [h3] at h1
   exact h1
  ·exact h l[i] (List.mem_iff_getElem.2 ⟨i, by simpa using hi, by rw [List.getElem_set_ne (Ne.symm hik)]⟩)
 ·exact h l[i] (List.mem_append.2 (.inl (List.getElem_mem hi)))
end Go.Proofs.YtgljdkjepdknnaaGreatDoor

/- What there must be room for: asking and giving. -/
namespace Go.Proofs.YtgljdkjepdknnaaGreatDoor
set_option linter.unusedSimpArgs false

theorem filter_imp_len {α : Type} {p p' : α → Bool} : ∀ (l : List α), (∀ x ∈ l, p' x = true → p x = true) → (l.filter p').length ≤ (l.filter p).length
 | [], _ => Nat.le_refl _
 | x :: l, h => by
  have ih := filter_imp_len l (fun y hy => h y (List.mem_cons_of_mem _ hy))
  have hx := h x (by simp)
  rw [List.filter_cons, List.filter_cons]
  cases h1 : p' x
  ·simp only [Bool.false_eq_true, if_false]
   split
   ·rw [List.length_cons]; omega
   ·exact ih
  ·rw [if_pos rfl, if_pos (hx h1), List.length_cons, List.length_cons]
   omega
theorem filter_erase_len {α : Type} (p : α → Bool) : ∀ (l : List α) (i : Nat) (x : α), l[i]? = some x → ((l.eraseIdx i).filter p).length + (if p x = true then 1 else 0) = (l.filter p).length
 | [], i, x, h => by simp at h
 | y :: l, 0, x, h => by
  simp at h
  subst h
  rw [List.eraseIdx_cons_zero, List.filter_cons]
  split <;> simp
 | y :: l, i + 1, x, h => by
  have ih := filter_erase_len p l i x (by simpa using h)
  rw [List.eraseIdx_cons_succ, List.filter_cons, List.filter_cons]
  split
  ·rw [List.length_cons, List.length_cons]; omega
  ·exact ih
theorem giveL_size {l : List (Ent Clm)} {e : Ent Clm} : (giveL RC l e).length = l.length + (if (ownAt RC l e.o e.c).isNone = true then 1 else 0) := by
 unfold giveL
 split
 ·rename_i k hk
  rw [hk, List.length_set]; rfl
 ·rename_i hk
  rw [hk, List.length_append]; rfl
theorem cost_give {q : Qm Clm} {i : Nat} {e : Ent Clm} (he : q.waits[i]? = some e) : costQ (giveQ RC ⟨q.held, q.waits.eraseIdx i⟩ e) ≤ costQ q := by
 unfold costQ giveQ
 dsimp only
 have h1 := filter_imp_len (p' := fun w => (ownAt RC (giveL RC q.held e) w.o w.c).isNone) (p := fun w => (ownAt RC q.held w.o w.c).isNone) (q.waits.eraseIdx i) (fun w _ h => give_owns e w.o w.c h)
 have h2 := filter_erase_len (fun w => (ownAt RC q.held w.o w.c).isNone) q.waits i e he
 rw [giveL_size]
 omega
theorem cost_moved (q : Qm Clm) : costQ (movedQ RC q).1 ≤ costQ q :=
 moveQ_ind (P := fun p => costQ p ≤ costQ q) (fun _ _ _ h _ he => Nat.le_trans (cost_give he) h) _ _ (Nat.le_refl _)
theorem cost_leave (q : Qm Clm) (o : Int) : costQ (leaveQ RC q o).1 ≤ costQ q := by
 refine Nat.le_trans (cost_moved _) ?_
 unfold costQ
 dsimp only
 have : ((q.waits.filter (fun e => !ofE o e)).filter (fun w => (ownAt RC q.held w.o w.c).isNone)).length ≤ (q.waits.filter (fun w => (ownAt RC q.held w.o w.c).isNone)).length := (List.filter_sublist.filter _).length_le
 omega
theorem cost_ask (q : Qm Clm) (o : Int) (c : Clm) (b : Bool) : costQ (askQ RC q o c b).1 ≤ costQ q + (if (ownAt RC q.held o c).isNone = true then 1 else 0) := by
 unfold askQ
 split
 ·exact Nat.le_add_right _ _
 ·split
  ·exact Nat.le_add_right _ _
  ·rename_i e i he
   obtain ⟨ho, hi, hm⟩ := askFor_o he
   have hown : (ownAt RC q.held e.o e.c).isNone = (ownAt RC q.held o c).isNone := by
    rcases hm with ⟨_, _, hec, hn⟩ | ⟨_, _, k, x, hk, hx, _, hec⟩
    ·rw [ho, hec]
    ·obtain ⟨y, hy, _, hs, _⟩ := own_at hk
     rw [hx] at hy
     obtain rfl := Option.some.inj hy
     rw [ho, hec, ownAt_join RC_ok hs]
   split
   ·unfold costQ giveQ
    dsimp only
    have h1 := filter_imp_len (p' := fun w => (ownAt RC (giveL RC q.held e) w.o w.c).isNone) (p := fun w => (ownAt RC q.held w.o w.c).isNone) q.waits (fun w _ h => give_owns e w.o w.c h)
    rw [giveL_size, hown]
    omega
   ·split
    ·unfold costQ
     dsimp only
     rw [List.filter_append, List.filter_append, List.length_append, List.length_append]
     have h1 : (([e] : List (Ent Clm)).filter (fun w => (ownAt RC q.held w.o w.c).isNone)).length = (if (ownAt RC q.held o c).isNone = true then 1 else 0) := by
      rw [List.filter_cons, hown]
      split <;> rfl
     have h2 : ((q.waits.take i).filter (fun w => (ownAt RC q.held w.o w.c).isNone)).length + ((q.waits.drop i).filter (fun w => (ownAt RC q.held w.o w.c).isNone)).length = (q.waits.filter (fun w => (ownAt RC q.held w.o w.c).isNone)).length := by
      rw [← List.length_append, ← List.filter_append, List.take_append_drop]
     omega
    ·exact Nat.le_add_right _ _
end Go.Proofs.YtgljdkjepdknnaaGreatDoor

/- What there must be room for: dropping does not raise it. -/
namespace Go.Proofs.YtgljdkjepdknnaaGreatDoor
set_option linter.unusedSimpArgs false

theorem filter_or_len {α : Type} {p p' s : α → Bool} : ∀ (l : List α), (∀ x ∈ l, p' x = true → p x = true ∨ s x = true) → (l.filter p').length ≤ (l.filter p).length + (l.filter s).length
 | [], _ => Nat.zero_le _
 | x :: l, h => by
  have ih := filter_or_len l (fun y hy => h y (List.mem_cons_of_mem _ hy))
  have hx := h x (by simp)
  rw [List.filter_cons, List.filter_cons, List.filter_cons]
  cases h1 : p' x <;> cases h2 : p x <;> cases h3 : s x <;> simp_all <;> omega
theorem own_none {l : List (Ent Clm)} {o : Int} {c : Clm} : (ownAt RC l o c).isNone = true ↔ ∀ x ∈ l, sameE RC o c x = false := by
 rw [Option.isNone_iff_eq_none]
 unfold ownAt
 rw [List.findIdx?_eq_none_iff]
theorem cost_less {ws : List (Ent Clm)} (hw : ws.Pairwise (fun a b => a.o ≠ b.o)) (p l : List (Ent Clm)) (y : Ent Clm) : costQ ⟨p ++ l, ws⟩ ≤ costQ ⟨p ++ y :: l, ws⟩ := by
 unfold costQ
 dsimp only
 have h1 := filter_or_len (p' := fun w => (ownAt RC (p ++ l) w.o w.c).isNone) (p := fun w => (ownAt RC (p ++ y :: l) w.o w.c).isNone) (s := ofE y.o) ws (fun w _ h => by
  by_cases ho : w.o = y.o
  ·exact .inr (by unfold ofE; simp [ho])
  ·refine .inl (own_none.2 (fun x hx => ?_))
   rcases List.mem_append.1 hx with hx | hx
   ·exact own_none.1 h x (List.mem_append.2 (.inl hx))
   ·rcases List.mem_cons.1 hx with rfl | hx
    ·unfold sameE
     simp [Ne.symm ho]
    ·exact own_none.1 h x (List.mem_append.2 (.inr hx)))
 have h2 := wait_count hw y.o
 have h3 : (ws.filter (ofE y.o)).length ≤ 1 := by rw [h2]; split <;> omega
 rw [List.length_append, List.length_append, List.length_cons]
 omega
theorem cost_filter {ws : List (Ent Clm)} (hw : ws.Pairwise (fun a b => a.o ≠ b.o)) (keep : Ent Clm → Bool) : ∀ (l p : List (Ent Clm)), costQ ⟨p ++ l.filter keep, ws⟩ ≤ costQ ⟨p ++ l, ws⟩
 | [], _ => Nat.le_refl _
 | y :: l, p => by
  rw [List.filter_cons]
  split
  ·have := cost_filter hw keep l (p ++ [y])
   rw [List.append_assoc, List.append_assoc] at this
   exact this
  ·exact Nat.le_trans (cost_filter hw keep l p) (cost_less hw p l y)
theorem cost_drop {q : Qm Clm} (h : QOk q) (g : Ent Clm → Bool) : costQ (dropQ RC q g).1 ≤ costQ q :=
 Nat.le_trans (cost_moved _) (cost_filter h.once (fun e => !g e) q.held [])
/-- how many wait for more of what they hold -/
theorem cost_twice (q : Qm Clm) : costQ q + (q.waits.filter (fun w => (ownAt RC q.held w.o w.c).isSome)).length = q.held.length + q.waits.length := by
 have : ∀ l : List (Ent Clm), (l.filter (fun w => (ownAt RC q.held w.o w.c).isNone)).length + (l.filter (fun w => (ownAt RC q.held w.o w.c).isSome)).length = l.length := by
  intro l
  induction l with
  | nil => rfl
  | cons x l ih =>
   rw [List.filter_cons, List.filter_cons]
   cases hx : ownAt RC q.held x.o x.c <;> simp <;> omega
 have := this q.waits
 unfold costQ
 omega
end Go.Proofs.YtgljdkjepdknnaaGreatDoor

/- Never more than there is room for, as data. -/
namespace Go.Proofs.YtgljdkjepdknnaaGreatDoor
set_option linter.unusedSimpArgs false

theorem hasK_own (m : LkM) (o : Int) (c : Clm) : hasK m o c = (ownAt RC m.q.held o c).isSome := by
 rw [Bool.eq_iff_iff]
 unfold hasK holdsQ ownAt
 rw [List.any_eq_true, List.findIdx?_isSome, List.any_eq_true]
 constructor
 ·rintro ⟨h, hm, hs⟩
  obtain ⟨e, he, rfl⟩ := List.mem_map.1 hm
  obtain ⟨h1, h2⟩ := List.mem_filter.1 he
  refine ⟨e, h1, ?_⟩
  unfold sameE
  unfold ofE at h2
  rw [h2, hs]
  rfl
 ·rintro ⟨e, he, hs⟩
  unfold sameE at hs
  rw [Bool.and_eq_true] at hs
  exact ⟨e.c, List.mem_map.2 ⟨e, List.mem_filter.2 ⟨he, hs.1⟩, rfl⟩, hs.2⟩
theorem room_ask {m : LkM} {room : Int} (h : (costQ m.q : Int) ≤ room) (ok : Bool) (o : Int) (c : Clm) (dur hand : Int) : (costQ (askK m room ok o c dur hand).1.q : Int) ≤ room := by
 unfold askK
 split
 ·exact h
 ·split
  ·exact h
  ·split
   ·exact h
   ·rename_i hr
    have h1 := cost_ask m.q o c true
    have h2 := cost_le m.q
    rw [hasK_own] at hr
    show (costQ (askQ RC m.q o c true).1 : Int) ≤ room
    cases ho : ownAt RC m.q.held o c with
    | none =>
     rw [ho] at h1 hr
     simp at h1 hr
     omega
    | some k =>
     rw [ho] at h1
     simp at h1
     omega
theorem room_over {m : LkM} {room : Int} (hq : QOk m.q) (h : (costQ m.q : Int) ≤ room) (o w : Int) : (costQ (overK m o w).1.q : Int) ≤ room := by
 have := cost_drop hq (goneP o ((holdsQ m.q o).filter (fun c => (atR (overR m.why o w) o c).isNone)))
 exact Int.le_trans (Int.ofNat_le.2 this) h
theorem room_leave {m : LkM} {room : Int} (h : (costQ m.q : Int) ≤ room) (o : Int) : (costQ (leaveK m o).1.q : Int) ≤ room := by
 have := cost_leave m.q o
 show (costQ (leaveQ RC m.q o).1 : Int) ≤ room
 omega
theorem room_end {m : LkM} {room : Int} (hq : QOk m.q) (h : (costQ m.q : Int) ≤ room) (o : Int) : (costQ (endK m o).1.q : Int) ≤ room := by
 have h1 := cost_leave m.q o
 have h2 := cost_drop (leave_ok (R := RC) hq o) (ofE o)
 show (costQ (dropQ RC (leaveQ RC m.q o).1 (ofE o)).1 : Int) ≤ room
 omega
end Go.Proofs.YtgljdkjepdknnaaGreatDoor

/- Who waits for more of what they hold counts twice. -/
namespace Go.Proofs.YtgljdkjepdknnaaGreatDoor
set_option linter.unusedSimpArgs false

/-- counted as the law does, of the owners below n -/
noncomputable def twiceQ (Q : Qm Clm) : Nat → Nat
 | 0 => 0
 | n + 1 => twiceQ Q n + (if (waitsQ Q (n : Int)).2 = true then ((holdsQ Q (n : Int)).filter (fun h => RC.same h (waitsQ Q (n : Int)).1)).length else 0)
theorem waits_of {Q : Qm Clm} (h : QOk Q) {w : Ent Clm} (hw : w ∈ Q.waits) : waitsQ Q w.o = (w.c, true) := by
 obtain ⟨i, hi, rfl⟩ := List.mem_iff_getElem.1 hw
 cases hk : waitAt Q.waits Q.waits[i].o with
 | none => exact absurd rfl (waitAt_none (by rw [hk]; rfl) Q.waits[i] hw)
 | some k =>
  obtain ⟨e, he, heo⟩ := waitAt_get hk
  obtain ⟨hlt, rfl⟩ := List.getElem?_eq_some_iff.1 he
  have hki : k = i := by
   rcases Nat.lt_trichotomy k i with h1 | h1 | h1
   ·exact absurd heo (List.pairwise_iff_getElem.1 h.once k i hlt hi h1)
   ·exact h1
   ·exact absurd heo.symm (List.pairwise_iff_getElem.1 h.once i k hi hlt h1)
  subst hki
  unfold waitsQ
  rw [hk]
  dsimp only
  rw [he]
theorem twice_le {Q : Qm Clm} (h : QOk Q) (h0 : ∀ e ∈ Q.waits, 0 ≤ e.o) : ∀ n : Nat, ((Q.waits.filter (fun w => (ownAt RC Q.held w.o w.c).isSome)).filter (ltE (n : Int))).length ≤ twiceQ Q n
 | 0 => by
  rw [ltE_none (fun e he => by have := h0 e (List.mem_filter.1 he).1; simpa using this)]
  exact Nat.le_refl _
 | n + 1 => by
  have ih := twice_le h h0 n
  rw [show ((n + 1 : Nat) : Int) = (n : Int) + 1 by omega, ltE_succ]
  unfold twiceQ
  have h1 : ((Q.waits.filter (fun w => (ownAt RC Q.held w.o w.c).isSome)).filter (ofE (n : Int))).length ≤ (if (waitsQ Q (n : Int)).2 = true then ((holdsQ Q (n : Int)).filter (fun h => RC.same h (waitsQ Q (n : Int)).1)).length else 0) := by
   cases hl : (Q.waits.filter (fun w => (ownAt RC Q.held w.o w.c).isSome)).filter (ofE (n : Int)) with
   | nil => exact Nat.zero_le _
   | cons w l =>
    have hw : w ∈ (Q.waits.filter (fun w => (ownAt RC Q.held w.o w.c).isSome)).filter (ofE (n : Int)) := by rw [hl]; simp
    obtain ⟨hw1, hwo⟩ := List.mem_filter.1 hw
    obtain ⟨hw2, hws⟩ := List.mem_filter.1 hw1
    have ho : w.o = n := by unfold ofE at hwo; simpa using hwo
    have hlen : (w :: l).length ≤ 1 := by
     rw [← hl]
     have h2 := wait_count (h.once.sublist (List.filter_sublist (p := fun w : Ent Clm => (ownAt RC Q.held w.o w.c).isSome))) (n : Int)
     rw [h2]
     split <;> omega
    rw [← ho, waits_of h hw2, if_pos rfl]
    obtain ⟨k, hk⟩ := Option.isSome_iff_exists.1 hws
    obtain ⟨y, hy, hyo, hys, _⟩ := own_at hk
    have hm : y.c ∈ (holdsQ Q w.o).filter (fun h => RC.same h w.c) := List.mem_filter.2 ⟨List.mem_map.2 ⟨y, List.mem_filter.2 ⟨List.mem_of_getElem? hy, by unfold ofE; simpa using hyo⟩, rfl⟩, hys⟩
    have := List.length_pos_iff.2 (List.ne_nil_of_mem hm)
    show (w :: l).length ≤ ((holdsQ Q w.o).filter (fun h => RC.same h w.c)).length
    omega
  omega
/-- what the law says -/
theorem room_law {Q : Qm Clm} {most : Int} (h : QOk Q) (h0 : ∀ e ∈ Q.waits, 0 ≤ e.o ∧ e.o ≤ 7) (hc : (costQ Q : Int) ≤ most) : ((Q.held.length + Q.waits.length : Nat) : Int) - (twiceQ Q 8 : Int) ≤ most := by
 have h1 := twice_le h (fun e he => (h0 e he).1) 8
 rw [ltE_all (fun e he => by have := (h0 e (List.mem_filter.1 he).1).2; show e.o < ((8 : Nat) : Int); omega)] at h1
 have h2 := cost_twice Q
 omega
end Go.Proofs.YtgljdkjepdknnaaGreatDoor
