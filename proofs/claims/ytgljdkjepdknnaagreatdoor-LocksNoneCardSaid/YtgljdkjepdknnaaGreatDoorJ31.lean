/- Plain laws: what the steps of a script of small claims keep to. -/
import Derived.Test.YtgljdkjepdknnaaGreatDoorJ26
import Derived.Test.YtgljdkjepdknnaaGreatDoorJ30
import Derived.Test.YtgljdkjepdknnaaGreatDoorJ20
import Derived.Test.YtgljdkjepdknnaaGreatDoorJ14
namespace Go.Proofs.YtgljdkjepdknnaaGreatDoor
set_option linter.unusedSimpArgs false

def EntOk (n : Nat) (o : Int) (c : Clm) : Prop := (0 ≤ o ∧ o ≤ 7) ∧ ClmFit c ∧ ClmSm (6 * n) c
theorem EntOk.mono {n m : Nat} {o : Int} {c : Clm} (h : EntOk n o c) (hm : n ≤ m) : EntOk m o c := ⟨h.1, h.2.1, h.2.2.mono (by omega)⟩
theorem EntOk.sm {n : Nat} {o : Int} {c : Clm} (h : EntOk n o c) (hn : n ≤ 1000) : ClmSm 1000000 c := h.2.2.mono (by omega)
theorem AllE.mono {C : Type} {P P' : Int → C → Prop} {q : Qm C} (h : AllE P q) (f : ∀ o c, P o c → P' o c) : AllE P' q := ⟨fun e he => f _ _ (h.1 e he), fun e he => f _ _ (h.2 e he)⟩
/-- as ask_all, from one measure to the next -/
theorem ask_all2 {C : Type} {R : Rul C} {P P' : Int → C → Prop} {q : Qm C} (h : AllE P q) (hm : ∀ o c, P o c → P' o c) (o : Int) (c : C) (b : Bool) (hc : P' o c) (hj : ∀ x, P o x → P' o (R.join x c)) : AllE P' (askQ R q o c b).1 := by
  unfold askQ
  have h' := h.mono hm
  split
  · exact h'
  · split
    · exact h'
    · rename_i e i he
      obtain ⟨ho, _, hm⟩ := askFor_o he
      have hP : P' e.o e.c := by
        rcases hm with ⟨_, _, hc', _⟩ | ⟨_, _, k, x, hk, hx, _, hc'⟩
        · rw [ho, hc']; exact hc
        · rw [ho, hc']
          refine hj _ ?_
          have h1 := h.1 x (List.mem_of_getElem? hx)
          obtain ⟨y, hy, hyo, _, _⟩ := own_at hk
          rw [hx] at hy
          obtain rfl := Option.some.inj hy
          rw [← hyo]; exact h1
      split
      · exact ⟨give_all h'.1 hP, h'.2⟩
      · split
        · refine ⟨h'.1, fun x hx => ?_⟩
          rcases List.mem_append.1 hx with hx | hx
          · rcases List.mem_append.1 hx with hx | hx
            · exact h'.2 x (List.mem_of_mem_take hx)
            · obtain rfl := List.mem_singleton.1 hx; exact hP
          · exact h'.2 x (List.mem_of_mem_drop hx)
        · exact h'
theorem ask_len {C : Type} {R : Rul C} (q : Qm C) (o : Int) (c : C) (b : Bool) : (askQ R q o c b).1.held.length + (askQ R q o c b).1.waits.length ≤ q.held.length + q.waits.length + 1 := by
  unfold askQ
  split
  · exact Nat.le_succ _
  · split
    · exact Nat.le_succ _
    · rename_i e i he
      split
      · have := giveL_len (R := R) q.held e
        show (giveL R q.held e).length + q.waits.length ≤ _
        omega
      · split
        · show q.held.length + (q.waits.take i ++ [e] ++ q.waits.drop i).length ≤ _
          rw [List.append_assoc, List.length_append, List.length_append, List.length_take, List.length_drop, List.length_singleton]
          omega
        · exact Nat.le_succ _
theorem moved_le {C : Type} {R : Rul C} (q : Qm C) : (movedQ R q).1.held.length + (movedQ R q).1.waits.length ≤ q.held.length + q.waits.length :=
  moveQ_ind (P := fun p => p.held.length + p.waits.length ≤ q.held.length + q.waits.length) (fun p i e h hf he => by
    have hlt := (List.getElem?_eq_some_iff.1 he).1
    have := giveL_len (R := R) p.held e
    show (giveL R p.held e).length + (p.waits.eraseIdx i).length ≤ _
    rw [List.length_eraseIdx_of_lt hlt]
    omega) _ _ (Nat.le_refl _)
theorem imgJoin_or {l m : List (List Val)} : ∀ r ∈ imgJoin l m, r ∈ l ∨ r ∈ m := by
  unfold imgJoin
  induction m generalizing l with
  | nil => intro r h; exact .inl h
  | cons x m ih =>
    intro r h
    rcases ih r h with h1 | h1
    · dsimp only at h1
      split at h1
      · exact .inl h1
      · rcases List.mem_append.1 h1 with h1 | h1
        · exact .inl h1
        · exact .inr (by rw [List.mem_singleton.1 h1]; simp)
    · exact .inr (List.mem_cons_of_mem _ h1)
theorem join_fit {h c : Clm} (hh : ClmFit h) (hc : ClmFit c) : ClmFit (clmJoin h c) := by
  unfold clmJoin
  split
  · exact ⟨hh.1, fun r hr z hz => (imgJoin_or r hr).elim (fun h1 => hh.2 r h1 z hz) (fun h1 => hc.2 r h1 z hz)⟩
  · exact hh
theorem join_ok {n : Nat} {o : Int} {h c : Clm} (hh : EntOk n o h) (hc : ClmFit c) (hf : fewB c = true) : EntOk (n + 1) o (clmJoin h c) := by
  obtain ⟨ho, hfit, hl, hr, hp⟩ := hh
  obtain ⟨c1, c2, _⟩ := few_sm hf
  refine ⟨ho, join_fit hfit hc, ?_⟩
  unfold clmJoin
  split
  · refine ⟨?_, fun r hr' => ?_, hp⟩
    · have := (imgJoin_len h.imgs c.imgs).2
      show (imgJoin h.imgs c.imgs).length ≤ _
      omega
    · rcases imgJoin_or r hr' with h1 | h1
      · exact hr r h1
      · exact c2 r h1
  · exact ⟨Nat.le_trans hl (by omega), hr, hp⟩
theorem waitsQ_snd (Q : Qm Clm) (o : Int) : (waitsQ Q o).2 = (waitAt Q.waits o).isSome := by
  unfold waitsQ
  split
  · rename_i k h
    obtain ⟨e, he, _⟩ := waitAt_get h
    rw [h, he]; rfl
  · rename_i h; rw [h]; rfl
structure ScOk (n : Nat) (Q : Qm Clm) : Prop where
  ok : QOk Q
  all : AllE (EntOk n) Q
  len : Q.held.length + Q.waits.length ≤ n
theorem ScOk.mono {n m : Nat} {Q : Qm Clm} (h : ScOk n Q) (hm : n ≤ m) : ScOk m Q := ⟨h.ok, h.all.mono (fun _ _ h => h.mono hm), Nat.le_trans h.len hm⟩
theorem ask_sc {n : Nat} {Q : Qm Clm} (h : ScOk n Q) {o : Int} (ho : 0 ≤ o ∧ o ≤ 7) {c : Clm} (hc : ClmFit c) (hf : fewB c = true) (b : Bool) : ScOk (n + 1) (askQ RC Q o c b).1 := by
  obtain ⟨c1, c2, c3⟩ := few_sm hf
  exact ⟨ask_ok h.ok o c b, ask_all2 h.all (fun _ _ h => h.mono (Nat.le_succ _)) o c b ⟨ho, hc, Nat.le_trans c1 (by omega), c2, c3⟩ (fun x hx => join_ok hx hc hf), Nat.le_trans (ask_len Q o c b) (by have := h.len; omega)⟩
theorem drop_sc {n : Nat} {Q : Qm Clm} (h : ScOk n Q) (g : Ent Clm → Bool) : ScOk n (dropQ RC Q g).1 :=
  ⟨drop_ok h.ok g, drop_all h.all g, Nat.le_trans (moved_le _) (by have := List.length_filter_le (fun e => !g e) Q.held; have := h.len; show (Q.held.filter (fun e => !g e)).length + Q.waits.length ≤ n; omega)⟩
theorem leave_sc {n : Nat} {Q : Qm Clm} (h : ScOk n Q) (o : Int) : ScOk n (leaveQ RC Q o).1 :=
  ⟨leave_ok h.ok o, leave_all h.all o, Nat.le_trans (moved_le _) (by have := List.length_filter_le (fun e => !ofE o e) Q.waits; have := h.len; show Q.held.length + (Q.waits.filter (fun e => !ofE o e)).length ≤ n; omega)⟩
/-! plain claims -/
theorem plain_join {h c : Clm} (hh : clmPlain h = true) (hc : clmPlain c = true) : clmPlain (clmJoin h c) = true := by
  unfold clmJoin
  split
  · rename_i hs
    obtain ⟨hk, _, _⟩ := clmSame_iff.1 hs
    unfold clmPlain at hh hc ⊢
    dsimp only
    rw [← hk] at hc
    split
    · rename_i h1
      rw [if_pos h1] at hh hc
      simp only [Bool.and_eq_true, List.isEmpty_iff] at hh hc ⊢
      rw [hh.2, hc.2]
      refine ⟨?_, rfl⟩
      rcases modeR_cases hh.1 with h | h | h | h | h | h | h <;> rcases modeR_cases hc.1 with g | g | g | g | g | g | g <;> rw [h, g] <;> decide
    · rename_i h1
      rw [if_neg h1] at hh hc
      split
      · rename_i h2
        rw [if_pos h2] at hh hc
        simp only [Bool.or_eq_true, Bool.and_eq_true, List.isEmpty_iff, decide_eq_true_eq] at hh hc ⊢
        rcases hh with ⟨hm | hm, hi⟩ | hm <;> rcases hc with ⟨gm | gm, gi⟩ | gm <;> rw [hm, gm]
        · exact .inl ⟨.inl (by decide), by rw [hi, gi]; rfl⟩
        · exact .inl ⟨.inr (by decide), by rw [hi, gi]; rfl⟩
        · exact .inr (by decide)
        · exact .inl ⟨.inr (by decide), by rw [hi, gi]; rfl⟩
        · exact .inl ⟨.inr (by decide), by rw [hi, gi]; rfl⟩
        · exact .inr (by decide)
        · exact .inr (by decide)
        · exact .inr (by decide)
        · exact .inr (by decide)
      · rename_i h2
        rw [if_neg h2] at hh hc
        split
        · rename_i h3
          rw [if_pos h3] at hh hc
          simp only [Bool.and_eq_true, List.isEmpty_iff, decide_eq_true_eq] at hh hc ⊢
          rw [hh.1, hh.2, hc.1, hc.2]
          exact ⟨by decide, rfl⟩
        · rename_i h3
          rw [if_neg h3] at hh
          exact hh
  · exact hh
end Go.Proofs.YtgljdkjepdknnaaGreatDoor
