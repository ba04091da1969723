/- Joined texts: Plain laws: what the steps of a script of small claims keep to. Locks as data: who holds what, and why; what their functions come to. Reasons as bits, and reasons one by one: what each step does to both. Reasons as bits, and reasons one by one: noting; the document's rows. Reasons as bits, and reasons one by one: whether there is one; forgetting; ending all. A table in the place of rows, as data. No owner holds two that are the same. What there must be room for: asking and giving. What there must be room for: dropping does not raise it. Never more than there is room for, as data. Who waits for more of what they hold counts twice. -/
import Derived.Test.YtgljdkjepdknnaaGreatDoorMT19
import Derived.Test.YtgljdkjepdknnaaGreatDoorMT20
import Derived.Test.YtgljdkjepdknnaaGreatDoorMT17
import Derived.Test.YtgljdkjepdknnaaGreatDoorMT12
import Derived.Test.YtgljdkjepdknnaaGreatDoorMT15
namespace Go.Proofs.YtgljdkjepdknnaaGreatDoor
set_option linter.unusedSimpArgs false
def EntOk (n : Nat) (o : Int) (c : Clm) : Prop := (0 ≤ o ∧ o ≤ 7) ∧ bS c ∧ ClmSm (6 * n) c
theorem EntOk.mono {n m : Nat} {o : Int} {c : Clm} (h : EntOk n o c) (hm : n ≤ m) : EntOk m o c := ⟨h.1, h.2.1, h.2.2.mono (by omega)⟩
theorem EntOk.sm {n : Nat} {o : Int} {c : Clm} (h : EntOk n o c) (hn : n ≤ 1000) : ClmSm 1000000 c := h.2.2.mono (by omega)
theorem AllE.mono {C : Type} {P P' : Int → C → Prop} {q : Qm C} (h : AllE P q) (f : ∀ o c, P o c → P' o c) : AllE P' q := ⟨fun e he => f _ _ (h.1 e he), fun e he => f _ _ (h.2 e he)⟩
theorem rf {C : Type} {R : Rul C} {P P' : Int → C → Prop} {q : Qm C} (h : AllE P q) (hm : ∀ o c, P o c → P' o c) (o : Int) (c : C) (b : Bool) (hc : P' o c) (hj : ∀ x, P o x → P' o (R.join x c)) : AllE P' (aV R q o c b).1 := by
 unfold aV
 have h' := h.mono hm
 split
 ·exact h'
 ·split
  ·exact h'
  ·rename_i e i he
   obtain ⟨ho, _, hm⟩ := ew he
   have hP : P' e.o e.c := by
    rcases hm with ⟨_, _, hc', _⟩ | ⟨_, _, k, x, hk, hx, _, hc'⟩
    ·rw [ho, hc']; exact hc
    ·rw [ho, hc']
     refine hj _ ?_
     have h1 := h.1 x (List.mem_of_getElem? hx)
     obtain ⟨y, hy, hyo, _, _⟩ := dx hk
     rw [hx] at hy
     obtain rfl := Option.some.inj hy
     rw [← hyo]; exact h1
   split
   ·exact ⟨mv h'.1 hP, h'.2⟩
   ·split
    ·refine ⟨h'.1, fun x hx => ?_⟩
     rcases List.mem_append.1 hx with hx | hx
     ·rcases List.mem_append.1 hx with hx | hx
      ·exact h'.2 x (List.mem_of_mem_take hx)
      ·obtain rfl := List.mem_singleton.1 hx; exact hP
     ·exact h'.2 x (List.mem_of_mem_drop hx)
    ·exact h'
theorem jG {C : Type} {R : Rul C} (q : Qm C) (o : Int) (c : C) (b : Bool) : (aV R q o c b).1.held.length + (aV R q o c b).1.waits.length ≤ q.held.length + q.waits.length + 1 := by
 unfold aV
 split
 ·exact Nat.le_succ _
 ·split
  ·exact Nat.le_succ _
  ·rename_i e i he
   split
   ·have := fF (R := R) q.held e
    show (bX R q.held e).length + q.waits.length ≤ _
    omega
   ·split
    ·show q.held.length + (q.waits.take i ++ [e] ++ q.waits.drop i).length ≤ _
     rw [List.append_assoc, List.length_append, List.length_append, List.length_take, List.length_drop, List.length_singleton]
     omega
    ·exact Nat.le_succ _
theorem j5 {C : Type} {R : Rul C} (q : Qm C) : (bJ R q).1.held.length + (bJ R q).1.waits.length ≤ q.held.length + q.waits.length :=
 dN (P := fun p => p.held.length + p.waits.length ≤ q.held.length + q.waits.length) (fun p i e h hf he => by
  have hlt := (List.getElem?_eq_some_iff.1 he).1
  have := fF (R := R) p.held e
  show (bX R p.held e).length + (p.waits.eraseIdx i).length ≤ _
  rw [List.length_eraseIdx_of_lt hlt]
  omega) _ _ (Nat.le_refl _)
theorem j6 {l m : List (List Val)} : ∀ r ∈ bL l m, r ∈ l ∨ r ∈ m := by
 unfold bL
 induction m generalizing l with
 | nil => intro r h; exact .inl h
 | cons x m ih =>
  intro r h
  rcases ih r h with h1 | h1
  ·dsimp only at h1
   split at h1
   ·exact .inl h1
   ·rcases List.mem_append.1 h1 with h1 | h1
    ·exact .inl h1
    ·exact .inr (by rw [List.mem_singleton.1 h1]; simp)
  ·exact .inr (List.mem_cons_of_mem _ h1)
theorem mT {h c : Clm} (hh : bS h) (hc : bS c) : bS (dp h c) := by
 unfold dp
 split
 ·exact ⟨hh.1, fun r hr z hz => (j6 r hr).elim (fun h1 => hh.2 r h1 z hz) (fun h1 => hc.2 r h1 z hz)⟩
 ·exact hh
theorem join_ok {n : Nat} {o : Int} {h c : Clm} (hh : EntOk n o h) (hc : bS c) (hf : gh c = true) : EntOk (n + 1) o (dp h c) := by
 obtain ⟨ho, hfit, hl, hr, hp⟩ := hh
 obtain ⟨c1, c2, _⟩ := nW hf
 refine ⟨ho, mT hfit hc, ?_⟩
 unfold dp
 split
 ·refine ⟨?_, fun r hr' => ?_, hp⟩
  ·have := (gj h.imgs c.imgs).2
   show (bL h.imgs c.imgs).length ≤ _
   omega
  ·rcases j6 r hr' with h1 | h1
   ·exact hr r h1
   ·exact c2 r h1
 ·exact ⟨Nat.le_trans hl (by omega), hr, hp⟩
theorem fL (Q : Qm Clm) (o : Int) : (aS Q o).2 = (b8 Q.waits o).isSome := by
 unfold aS
 split
 ·rename_i k h
  obtain ⟨e, he, _⟩ := kw h
  rw [h, he]; rfl
 ·rename_i h; rw [h]; rfl
structure ScOk (n : Nat) (Q : Qm Clm) : Prop where
 ok : QOk Q
 all : AllE (EntOk n) Q
 len : Q.held.length + Q.waits.length ≤ n
theorem ScOk.mono {n m : Nat} {Q : Qm Clm} (h : ScOk n Q) (hm : n ≤ m) : ScOk m Q := ⟨h.ok, h.all.mono (fun _ _ h => h.mono hm), Nat.le_trans h.len hm⟩
theorem jN {n : Nat} {Q : Qm Clm} (h : ScOk n Q) {o : Int} (ho : 0 ≤ o ∧ o ≤ 7) {c : Clm} (hc : bS c) (hf : gh c = true) (b : Bool) : ScOk (n + 1) (aV RC Q o c b).1 := by
 obtain ⟨c1, c2, c3⟩ := nW hf
 exact ⟨sC h.ok o c b, rf h.all (fun _ _ h => h.mono (Nat.le_succ _)) o c b ⟨ho, hc, Nat.le_trans c1 (by omega), c2, c3⟩ (fun x hx => join_ok hx hc hf), Nat.le_trans (jG Q o c b) (by have := h.len; omega)⟩
theorem fJ {n : Nat} {Q : Qm Clm} (h : ScOk n Q) (g : Ent Clm → Bool) : ScOk n (a8 RC Q g).1 :=
 ⟨drop_ok h.ok g, rO h.all g, Nat.le_trans (j5 _) (by have := List.length_filter_le (fun e => !g e) Q.held; have := h.len; show (Q.held.filter (fun e => !g e)).length + Q.waits.length ≤ n; omega)⟩
theorem ie {n : Nat} {Q : Qm Clm} (h : ScOk n Q) (o : Int) : ScOk n (bj RC Q o).1 :=
 ⟨sK h.ok o, qE h.all o, Nat.le_trans (j5 _) (by have := List.length_filter_le (fun e => !ofE o e) Q.waits; have := h.len; show Q.held.length + (Q.waits.filter (fun e => !ofE o e)).length ≤ n; omega)⟩
structure Rsn where
 o : Int
 c : Clm
 why : Int
structure LkM where
 q : Qm Clm
 why : List Rsn
noncomputable def ofR (o : Int) (c : Clm) (r : Rsn) : Bool := decide (r.o = o) && RC.same r.c c
noncomputable def atR (l : List Rsn) (o : Int) (c : Clm) : Option Nat := l.findIdx? (ofR o c)
def orR (w : Int) (r : Rsn) : Rsn := ⟨r.o, r.c, bits .or .u8 r.why w⟩
noncomputable def cV (l : List Rsn) (o : Int) (c : Clm) (w : Int) : List Rsn := match atR l o c with
 | some k => match l[k]? with
  | some r => l.set k (orR w r)
  | none => l
 | none => l ++ [⟨o, c, w⟩]
def eZ (o w : Int) (r : Rsn) : Rsn := if r.o = o then ⟨r.o, r.c, bits .andNot .u8 r.why w⟩ else r
def dA (l : List Rsn) (o w : Int) : List Rsn := (l.map (eZ o w)).filter (fun r => !decide (r.why = 0))
def bD (l : List Rsn) (o : Int) (p : Clm → Bool) : List Rsn := l.filter (fun r => !(decide (r.o = o) && p r.c))
noncomputable def fi (m : LkM) (o : Int) (c : Clm) : Bool := (aE m.q o).any (fun h => RC.same h c)
noncomputable def lj (m : LkM) (o : Int) (p : Clm → Bool) : LkM × List Int :=
 (⟨(a8 RC m.q (bT o ((aE m.q o).filter p))).1, m.why⟩, (a8 RC m.q (bT o ((aE m.q o).filter p))).2)
noncomputable def di (m : LkM) (o w : Int) : LkM × List Int := lj ⟨m.q, dA m.why o w⟩ o (fun c => (atR (dA m.why o w) o c).isNone)
noncomputable def gM (m : LkM) (o : Int) : LkM × List Int :=
 (⟨(a8 RC (bj RC m.q o).1 (ofE o)).1, bD m.why o (fun _ => true)⟩, (bj RC m.q o).2 ++ (a8 RC (bj RC m.q o).1 (ofE o)).2)
noncomputable def dS (m : LkM) (o : Int) : LkM × List Int :=
 (⟨(bj RC m.q o).1, if (aS m.q o).2 && !fi m o (aS m.q o).1 then bD m.why o (fun d => RC.same d (aS m.q o).1) else m.why⟩, (bj RC m.q o).2)
def cj (dur hand : Int) : Int := if dur = 1 then 1 else if dur = 3 then 8 else if dur = 2 ∧ 1 ≤ hand ∧ hand ≤ 2 then (if hand = 1 then 2 else 4) else 0
noncomputable def dO (m : LkM) (room : Int) (ok : Bool) (o : Int) (c : Clm) (dur hand : Int) : LkM × Bool × Int :=
 if !ok || decide (cj dur hand = 0) then (m, false, 111) else
 if (aS m.q o).2 then (m, false, 110) else
 if !fi m o c && decide (room ≤ ((m.q.held.length + m.q.waits.length : Nat) : Int)) then (m, false, 62) else
 (⟨(aV RC m.q o c true).1, cV m.why o c (cj dur hand)⟩, (aV RC m.q o c true).2, 0)
structure Rea where
 o : Int
 c : Clm
 dur : Int
 hand : Int
def d6 : List Int := [1, 2, 4, 8]
set_option maxRecDepth 100000 in
theorem oW : ∀ a : Fin 16, ∀ w ∈ d6, (0 ≤ bits .or .u8 (a.val : Int) w ∧ bits .or .u8 (a.val : Int) w ≤ 15 ∧ bits .or .u8 (a.val : Int) w ≠ 0) ∧ ∀ b ∈ d6, (bits .and .u8 (bits .or .u8 (a.val : Int) w) b ≠ 0 ↔ (bits .and .u8 (a.val : Int) b ≠ 0 ∨ b = w)) := by decide
set_option maxRecDepth 100000 in
theorem iT : ∀ a : Fin 16, ∀ w ∈ d6, (0 ≤ bits .andNot .u8 (a.val : Int) w ∧ bits .andNot .u8 (a.val : Int) w ≤ 15) ∧ ∀ b ∈ d6, (bits .and .u8 (bits .andNot .u8 (a.val : Int) w) b ≠ 0 ↔ (bits .and .u8 (a.val : Int) b ≠ 0 ∧ b ≠ w)) := by decide
theorem qs : ∀ b ∈ d6, bits .and .u8 0 b = 0 := by decide
theorem qi : ∀ a : Fin 16, (a.val : Int) ≠ 0 → ∃ b ∈ d6, bits .and .u8 (a.val : Int) b ≠ 0 := by decide
theorem mF : ∀ w ∈ d6, (0 ≤ w ∧ w ≤ 15 ∧ w ≠ 0) ∧ ∀ b ∈ d6, (bits .and .u8 w b ≠ 0 ↔ b = w) := by decide
def dU (l : List Rsn) : Prop := ∀ r ∈ l, 0 ≤ r.why ∧ r.why ≤ 15 ∧ r.why ≠ 0
def Has (l : List Rsn) (o : Int) (c : Clm) (b : Int) : Prop := ∃ r ∈ l, r.o = o ∧ RC.same r.c c = true ∧ bits .and .u8 r.why b ≠ 0
def jK (l : List Rea) (o : Int) (c : Clm) (b : Int) : Prop := ∃ x ∈ l, x.o = o ∧ RC.same x.c c = true ∧ cj x.dur x.hand = b
theorem j4 {a : Int} (h : 0 ≤ a ∧ a ≤ 15) : ∃ f : Fin 16, (f.val : Int) = a := ⟨⟨a.toNat, by omega⟩, by show ((a.toNat : Nat) : Int) = a; omega⟩
theorem over_ok {l : List Rsn} (h : dU l) (o : Int) {w : Int} (hw : w ∈ d6) : dU (dA l o w) := by
 intro r hr
 obtain ⟨hm, hz⟩ := List.mem_filter.1 hr
 obtain ⟨r0, hr0, rfl⟩ := List.mem_map.1 hm
 have h0 := h r0 hr0
 have hz' : (eZ o w r0).why ≠ 0 := by simpa using hz
 unfold eZ at hz' ⊢
 by_cases ho : r0.o = o
 ·rw [if_pos ho] at hz' ⊢
  obtain ⟨f, hf⟩ := j4 ⟨h0.1, h0.2.1⟩
  have := (iT f w hw).1
  rw [hf] at this
  exact ⟨this.1, this.2, hz'⟩
 ·rw [if_neg ho] at hz' ⊢
  exact h0
theorem su {l : List Rsn} (h : dU l) (o : Int) {w : Int} (hw : w ∈ d6) (o' : Int) (c : Clm) {b : Int} (hb : b ∈ d6) : Has (dA l o w) o' c b ↔ (Has l o' c b ∧ ¬ (o' = o ∧ b = w)) := by
 constructor
 ·rintro ⟨r, hr, hro, hrs, hrb⟩
  obtain ⟨hm, _⟩ := List.mem_filter.1 hr
  obtain ⟨r0, hr0, rfl⟩ := List.mem_map.1 hm
  obtain ⟨h0, h15, _⟩ := h r0 hr0
  unfold eZ at hro hrs hrb
  by_cases ho : r0.o = o
  ·rw [if_pos ho] at hro hrs hrb
   obtain ⟨f, hf⟩ := j4 ⟨h0, h15⟩
   have h2 := (iT f w hw).2 b hb
   rw [hf] at h2
   obtain ⟨h3, h4⟩ := h2.1 hrb
   exact ⟨⟨r0, hr0, hro, hrs, h3⟩, fun h => h4 h.2⟩
  ·rw [if_neg ho] at hro hrs hrb
   exact ⟨⟨r0, hr0, hro, hrs, hrb⟩, fun h => ho (hro.trans h.1)⟩
 ·rintro ⟨⟨r, hr, hro, hrs, hrb⟩, hn⟩
  obtain ⟨h0, h15, hz⟩ := h r hr
  by_cases ho : r.o = o
  ·obtain ⟨f, hf⟩ := j4 ⟨h0, h15⟩
   have h2 := (iT f w hw).2 b hb
   rw [hf] at h2
   have h3 := h2.2 ⟨hrb, fun h => hn ⟨hro.symm.trans ho, h⟩⟩
   have h4 : bits .andNot .u8 r.why w ≠ 0 := fun h => by rw [h] at h3; exact h3 (qs b hb)
   have hl : eZ o w r = ⟨r.o, r.c, bits .andNot .u8 r.why w⟩ := by unfold eZ; rw [if_pos ho]
   exact ⟨⟨r.o, r.c, bits .andNot .u8 r.why w⟩, List.mem_filter.2 ⟨List.mem_map.2 ⟨r, hr, hl⟩, by simpa using h4⟩, hro, hrs, h3⟩
  ·have hl : eZ o w r = r := by unfold eZ; rw [if_neg ho]
   exact ⟨r, List.mem_filter.2 ⟨List.mem_map.2 ⟨r, hr, hl⟩, by simpa using hz⟩, hro, hrs, hrb⟩
theorem eS (l : List Rsn) (o : Int) (p : Clm → Bool) (o' : Int) (c : Clm) (b : Int) (hp : ∀ r ∈ l, RC.same r.c c = true → p r.c = p c) : Has (bD l o p) o' c b ↔ (Has l o' c b ∧ ¬ (o' = o ∧ p c = true)) := by
 constructor
 ·rintro ⟨r, hr, hro, hrs, hrb⟩
  obtain ⟨hm, hz⟩ := List.mem_filter.1 hr
  refine ⟨⟨r, hm, hro, hrs, hrb⟩, fun h => ?_⟩
  rw [hp r hm hrs, hro, h.1] at hz
  simp [h.2] at hz
 ·rintro ⟨⟨r, hr, hro, hrs, hrb⟩, hn⟩
  refine ⟨r, List.mem_filter.2 ⟨hr, ?_⟩, hro, hrs, hrb⟩
  rw [hp r hr hrs, hro]
  by_cases h : o' = o
  ·have : p c = false := by
    cases hc : p c
    ·rfl
    ·exact absurd ⟨h, hc⟩ hn
   simp [this]
  ·simp [h]
theorem gG {l : List Rsn} (h : dU l) (o : Int) (p : Clm → Bool) : dU (bD l o p) := fun r hr => h r (List.mem_filter.1 hr).1
theorem l3 {l : List Rsn} (h : dU l) (o : Int) (c : Clm) {w : Int} (hw : w ∈ d6) : dU (cV l o c w) := by
 unfold cV
 split
 ·rename_i k hk
  split
  ·rename_i r hr
   intro x hx
   rcases List.mem_or_eq_of_mem_set hx with hx | rfl
   ·exact h x hx
   ·obtain ⟨h0, h15, _⟩ := h r (List.mem_of_getElem? hr)
    obtain ⟨f, hf⟩ := j4 ⟨h0, h15⟩
    have := (oW f w hw).1
    rw [hf] at this
    exact this
  ·exact h
 ·intro x hx
  rcases List.mem_append.1 hx with hx | hx
  ·exact h x hx
  ·rw [List.mem_singleton.1 hx]
   exact (mF w hw).1
theorem at_none {l : List Rsn} (h : dU l) (o : Int) (c : Clm) : (atR l o c).isNone = true ↔ ∀ b ∈ d6, ¬ Has l o c b := by
 unfold atR
 rw [Option.isNone_iff_eq_none, List.findIdx?_eq_none_iff]
 constructor
 ·rintro hn b _ ⟨r, hr, hro, hrs, _⟩
  have := hn r hr
  unfold ofR at this
  simp [hro, hrs] at this
 ·intro hn r hr
  cases hp : ofR o c r
  ·rfl
  ·exfalso
   unfold ofR at hp
   rw [Bool.and_eq_true, decide_eq_true_eq] at hp
   obtain ⟨h0, h15, hz⟩ := h r hr
   obtain ⟨f, hf⟩ := j4 ⟨h0, h15⟩
   obtain ⟨b, hb, hbb⟩ := qi f (by rw [hf]; exact hz)
   rw [hf] at hbb
   exact hn b hb ⟨r, hr, hp.1, hp.2, hbb⟩
theorem dv {a b c : Clm} (h : RC.same a b = true) : RC.same a c = RC.same b c := by
 show cz a c = cz b c
 rw [gk a c, gk b c]
 exact gT h
theorem nu {l : List Rsn} (h : dU l) (o : Int) (c : Clm) {w : Int} (hw : w ∈ d6) (o' : Int) (c' : Clm) {b : Int} (hb : b ∈ d6) : Has (cV l o c w) o' c' b ↔ (Has l o' c' b ∨ (o' = o ∧ RC.same c c' = true ∧ b = w)) := by
 unfold cV
 split
 ·rename_i k hk
  unfold atR at hk
  obtain ⟨hlt, hkk, _⟩ := List.findIdx?_eq_some_iff_getElem.1 hk
  rw [List.getElem?_eq_getElem hlt]
  dsimp only
  unfold ofR at hkk
  rw [Bool.and_eq_true, decide_eq_true_eq] at hkk
  obtain ⟨hro, hrs⟩ := hkk
  obtain ⟨h0, h15, _⟩ := h l[k] (List.getElem_mem hlt)
  obtain ⟨f, hf⟩ := j4 ⟨h0, h15⟩
  have h2 := (oW f w hw).2 b hb
  rw [hf] at h2
  have hin : orR w l[k] ∈ l.set k (orR w l[k]) := List.mem_iff_getElem.2 ⟨k, by simpa using hlt, by simp⟩
  constructor
  ·rintro ⟨x, hx, hxo, hxs, hxb⟩
   obtain ⟨i, hi, rfl⟩ := List.mem_iff_getElem.1 hx
   by_cases hik : i = k
   ·subst hik
    rw [List.getElem_set_self] at hxo hxs hxb
    rcases h2.1 hxb with h3 | h3
    ·exact .inl ⟨l[i], List.getElem_mem hlt, hxo, hxs, h3⟩
    ·exact .inr ⟨hxo.symm.trans hro, by rw [← dv hrs]; exact hxs, h3⟩
   ·rw [List.getElem_set_ne (Ne.symm hik)] at hxo hxs hxb
    exact .inl ⟨_, List.getElem_mem _, hxo, hxs, hxb⟩
  ·rintro (⟨r, hr, h3, h4, h5⟩ | ⟨h3, h4, h5⟩)
   ·obtain ⟨i, hi, rfl⟩ := List.mem_iff_getElem.1 hr
    by_cases hik : i = k
    ·subst hik
     exact ⟨_, hin, h3, h4, h2.2 (.inl h5)⟩
    ·exact ⟨l[i], List.mem_iff_getElem.2 ⟨i, by simpa using hi, by rw [List.getElem_set_ne (Ne.symm hik)]⟩, h3, h4, h5⟩
   ·exact ⟨_, hin, hro.trans h3.symm, by show RC.same l[k].c c' = true; rw [dv hrs]; exact h4, h2.2 (.inr h5)⟩
 ·have h2 := (mF w hw).2 b hb
  constructor
  ·rintro ⟨x, hx, hxo, hxs, hxb⟩
   rcases List.mem_append.1 hx with hx | hx
   ·exact .inl ⟨x, hx, hxo, hxs, hxb⟩
   ·rw [List.mem_singleton.1 hx] at hxo hxs hxb
    exact .inr ⟨hxo.symm, hxs, h2.1 hxb⟩
  ·rintro (⟨r, hr, h3, h4, h5⟩ | ⟨h3, h4, h5⟩)
   ·exact ⟨r, List.mem_append.2 (.inl hr), h3, h4, h5⟩
   ·exact ⟨⟨o, c, w⟩, List.mem_append.2 (.inr (by simp)), h3.symm, h4, h2.2 h5⟩
def eG (l : List Rea) : Prop := ∀ x ∈ l, (x.dur = 1 ∧ x.hand = 0) ∨ (x.dur = 3 ∧ x.hand = 0) ∨ (x.dur = 2 ∧ (x.hand = 1 ∨ x.hand = 2))
theorem bit_inj {d h d' h' : Int} (h1 : (d = 1 ∧ h = 0) ∨ (d = 3 ∧ h = 0) ∨ (d = 2 ∧ (h = 1 ∨ h = 2))) (h2 : (d' = 1 ∧ h' = 0) ∨ (d' = 3 ∧ h' = 0) ∨ (d' = 2 ∧ (h' = 1 ∨ h' = 2))) : cj d h = cj d' h' ↔ (d = d' ∧ h = h') := by
 rcases h1 with ⟨rfl, rfl⟩ | ⟨rfl, rfl⟩ | ⟨rfl, rfl | rfl⟩ <;> rcases h2 with ⟨rfl, rfl⟩ | ⟨rfl, rfl⟩ | ⟨rfl, rfl | rfl⟩ <;> decide
theorem iO {d h : Int} (h1 : (d = 1 ∧ h = 0) ∨ (d = 3 ∧ h = 0) ∨ (d = 2 ∧ (h = 1 ∨ h = 2))) : cj d h ∈ d6 := by
 rcases h1 with ⟨rfl, rfl⟩ | ⟨rfl, rfl⟩ | ⟨rfl, rfl | rfl⟩ <;> decide
def cT (l : List Rea) (o dur hand : Int) : List Rea := l.filter (fun x => decide (x.o ≠ o) || decide (x.dur ≠ dur) || decide (x.hand ≠ hand))
theorem pK {l : List Rea} (h : eG l) (o : Int) {dur hand : Int} (hd : (dur = 1 ∧ hand = 0) ∨ (dur = 3 ∧ hand = 0) ∨ (dur = 2 ∧ (hand = 1 ∨ hand = 2))) (o' : Int) (c : Clm) (b : Int) : jK (cT l o dur hand) o' c b ↔ (jK l o' c b ∧ ¬ (o' = o ∧ b = cj dur hand)) := by
 constructor
 ·rintro ⟨x, hx, hxo, hxs, hxb⟩
  obtain ⟨hm, hz⟩ := List.mem_filter.1 hx
  refine ⟨⟨x, hm, hxo, hxs, hxb⟩, fun hn => ?_⟩
  rw [hn.2] at hxb
  obtain ⟨h1, h2⟩ := (bit_inj (h x hm) hd).1 hxb
  simp [h1, h2, hxo, hn.1] at hz
 ·rintro ⟨⟨x, hx, hxo, hxs, hxb⟩, hn⟩
  refine ⟨x, List.mem_filter.2 ⟨hx, ?_⟩, hxo, hxs, hxb⟩
  by_cases ho : x.o = o
  ·have : ¬ (x.dur = dur ∧ x.hand = hand) := fun h3 => hn ⟨hxo.symm.trans ho, by rw [← hxb, h3.1, h3.2]⟩
   by_cases h4 : x.dur = dur
   ·have h5 : x.hand ≠ hand := fun h5 => this ⟨h4, h5⟩
    simp [h5]
   ·simp [h4]
  ·simp [ho]
theorem sq {l : List Rea} (h : eG l) (o dur hand : Int) : eG (cT l o dur hand) := fun x hx => h x (List.mem_filter.1 hx).1
theorem k9 (l : List Rea) (x : Rea) (o : Int) (c : Clm) (b : Int) : jK (l ++ [x]) o c b ↔ (jK l o c b ∨ (o = x.o ∧ RC.same x.c c = true ∧ b = cj x.dur x.hand)) := by
 constructor
 ·rintro ⟨y, hy, h1, h2, h3⟩
  rcases List.mem_append.1 hy with hy | hy
  ·exact .inl ⟨y, hy, h1, h2, h3⟩
  ·rw [List.mem_singleton.1 hy] at h1 h2 h3
   exact .inr ⟨h1.symm, h2, h3.symm⟩
 ·rintro (⟨y, hy, h1, h2, h3⟩ | ⟨h1, h2, h3⟩)
  ·exact ⟨y, List.mem_append.2 (.inl hy), h1, h2, h3⟩
  ·exact ⟨x, List.mem_append.2 (.inr (by simp)), h1.symm, h2, h3.symm⟩
def cG (l : List Rsn) (m : List Rea) : Prop := ∀ (o : Int) (c : Clm), ∀ b ∈ d6, (Has l o c b ↔ jK m o c b)
theorem mn {l : List Rsn} {m : List Rea} (h : cG l m) (hl : dU l) (hm : eG m) (o : Int) {dur hand : Int} (hd : (dur = 1 ∧ hand = 0) ∨ (dur = 3 ∧ hand = 0) ∨ (dur = 2 ∧ (hand = 1 ∨ hand = 2))) : cG (dA l o (cj dur hand)) (cT m o dur hand) := fun o' c b hb => by
 rw [su hl o (iO hd) o' c hb, pK hm o hd o' c b, h o' c b hb]
theorem lQ {l : List Rsn} {m : List Rea} (h : cG l m) (hl : dU l) (x : Rea) (hx : (x.dur = 1 ∧ x.hand = 0) ∨ (x.dur = 3 ∧ x.hand = 0) ∨ (x.dur = 2 ∧ (x.hand = 1 ∨ x.hand = 2))) : cG (cV l x.o x.c (cj x.dur x.hand)) (m ++ [x]) := fun o' c b hb => by
 rw [nu hl x.o x.c (iO hx) o' c hb, k9 m x o' c b, h o' c b hb]
noncomputable def cI (m : List Rea) (o : Int) (c : Clm) : Bool := m.any (fun x => decide (x.o = o) && RC.same x.c c)
theorem lr {l : List Rsn} {m : List Rea} (h : cG l m) (hl : dU l) (hm : eG m) (o : Int) (c : Clm) : (atR l o c).isNone = !cI m o c := by
 rw [Bool.eq_iff_iff, at_none hl]
 unfold cI
 rw [Bool.not_eq_true', List.any_eq_false]
 constructor
 ·intro hn x hx hp
  rw [Bool.and_eq_true, decide_eq_true_eq] at hp
  exact hn _ (iO (hm x hx)) ((h o c _ (iO (hm x hx))).2 ⟨x, hx, hp.1, hp.2, rfl⟩)
 ·intro hn b hb hh
  obtain ⟨x, hx, h1, h2, _⟩ := (h o c b hb).1 hh
  exact hn x hx (by simp [h1, h2])
noncomputable def bw (m : List Rea) (o : Int) (c : Clm) : List Rea := m.filter (fun x => decide (x.o ≠ o) || !RC.same x.c c)
theorem iB (m : List Rea) (o : Int) (c : Clm) (o' : Int) (c' : Clm) (b : Int) : jK (bw m o c) o' c' b ↔ (jK m o' c' b ∧ ¬ (o' = o ∧ RC.same c' c = true)) := by
 constructor
 ·rintro ⟨x, hx, h1, h2, h3⟩
  obtain ⟨hm, hz⟩ := List.mem_filter.1 hx
  refine ⟨⟨x, hm, h1, h2, h3⟩, fun hn => ?_⟩
  have h4 : RC.same x.c c = true := by rw [dv h2]; exact hn.2
  simp [h4, h1, hn.1] at hz
 ·rintro ⟨⟨x, hx, h1, h2, h3⟩, hn⟩
  refine ⟨x, List.mem_filter.2 ⟨hx, ?_⟩, h1, h2, h3⟩
  by_cases ho : x.o = o
  ·have h4 : RC.same x.c c = false := by
    cases hc : RC.same x.c c
    ·rfl
    ·exact absurd ⟨h1.symm.trans ho, by rw [← dv h2]; exact hc⟩ hn
   simp [h4]
  ·simp [ho]
theorem jq {m : List Rea} (h : eG m) (o : Int) (c : Clm) : eG (bw m o c) := fun x hx => h x (List.mem_filter.1 hx).1
theorem jO {l : List Rsn} {m : List Rea} (h : cG l m) (o : Int) (c : Clm) : cG (bD l o (fun d => RC.same d c)) (bw m o c) := fun o' c' b hb => by
 rw [eS l o (fun d => RC.same d c) o' c' b (fun r _ hs => dv hs), iB m o c o' c' b, h o' c' b hb]
def kY (m : List Rea) (o : Int) : List Rea := m.filter (fun x => decide (x.o ≠ o))
theorem rq (m : List Rea) (o : Int) (o' : Int) (c : Clm) (b : Int) : jK (kY m o) o' c b ↔ (jK m o' c b ∧ ¬ (o' = o)) := by
 constructor
 ·rintro ⟨x, hx, h1, h2, h3⟩
  obtain ⟨hm, hz⟩ := List.mem_filter.1 hx
  exact ⟨⟨x, hm, h1, h2, h3⟩, fun hn => by simp [h1, hn] at hz⟩
 ·rintro ⟨⟨x, hx, h1, h2, h3⟩, hn⟩
  exact ⟨x, List.mem_filter.2 ⟨hx, by simpa using fun h => hn (h1.symm.trans h)⟩, h1, h2, h3⟩
theorem endE_ok {m : List Rea} (h : eG m) (o : Int) : eG (kY m o) := fun x hx => h x (List.mem_filter.1 hx).1
theorem mS {l : List Rsn} {m : List Rea} (h : cG l m) (o : Int) : cG (bD l o (fun _ => true)) (kY m o) := fun o' c b hb => by
 rw [eS l o (fun _ => true) o' c b (fun _ _ _ => rfl), rq m o o' c b, h o' c b hb]
 simp
theorem mh {l : List Rsn} {m : List Rea} (h : cG l m) (o : Int) (p : Clm → Bool) (hp : ∀ r ∈ l, ∀ c, RC.same r.c c = true → p r.c = p c) (rows : List Clm) (hr : ∀ c, p c = true → (∃ b ∈ d6, Has l o c b) → ∃ d ∈ rows, RC.same c d = true) (hr2 : ∀ d ∈ rows, p d = true) :
  cG (bD l o p) (rows.foldl (fun m d => bw m o d) m) := by
 have key : ∀ (rows : List Clm) (m : List Rea) (o' : Int) (c : Clm) (b : Int), jK (rows.foldl (fun m d => bw m o d) m) o' c b ↔ (jK m o' c b ∧ ¬ (o' = o ∧ ∃ d ∈ rows, RC.same c d = true)) := by
  intro rows
  induction rows with
  | nil => intro m o' c b; simp
  | cons d rows ih =>
   intro m o' c b
   rw [List.foldl_cons, ih, iB]
   constructor
   ·rintro ⟨⟨h1, h2⟩, h3⟩
    refine ⟨h1, fun hn => ?_⟩
    obtain ⟨e, he, hs⟩ := hn.2
    rcases List.mem_cons.1 he with rfl | he
    ·exact h2 ⟨hn.1, hs⟩
    ·exact h3 ⟨hn.1, e, he, hs⟩
   ·rintro ⟨h1, h2⟩
    exact ⟨⟨h1, fun hn => h2 ⟨hn.1, d, by simp, hn.2⟩⟩, fun hn => by obtain ⟨e, he, hs⟩ := hn.2; exact h2 ⟨hn.1, e, List.mem_cons_of_mem _ he, hs⟩⟩
 intro o' c b hb
 rw [eS l o p o' c b (fun r hr0 hs => hp r hr0 c hs), key rows m o' c b, ← h o' c b hb]
 refine and_congr_right (fun hh => not_congr (and_congr_right (fun ho => ?_)))
 constructor
 ·intro hpc
  exact hr c hpc ⟨b, hb, by rw [← ho]; exact hh⟩
 ·rintro ⟨d, hd, hs⟩
  obtain ⟨r, hr0, _, hrs, _⟩ := hh
  rw [← hp r hr0 c hrs, hp r hr0 d (by rw [dv hrs]; exact hs)]
  exact hr2 d hd
def bm (table : Int) (c : Clm) : Bool := decide (c.kind = 2) && decide (c.table = table)
def cM (table : Int) (rows : List Clm) : Clm := ⟨1, table, if rows.any (fun c => decide (c.mode ≠ 3)) then 6 else 3, ⟨false, 0, ⟨#[]⟩⟩, [], .mk 0 0 ⟨false, 0, ⟨#[]⟩⟩ ⟨false, 0, ⟨#[]⟩⟩ []⟩
noncomputable def aR (q : Qm Clm) (o table : Int) : List Clm := (aE q o).filter (bm table)
noncomputable def dG (m : LkM) (o table many : Int) : LkM × Bool :=
 if (aR m.q o table).length = 0 ∨ ((aR m.q o table).length : Int) ≤ many ∨ (aV RC m.q o (cM table (aR m.q o table)) false).2 = false then (m, false) else
 (⟨(a8 RC (aV RC m.q o (cM table (aR m.q o table)) false).1 (bT o (aR (aV RC m.q o (cM table (aR m.q o table)) false).1 o table))).1, bD (cV m.why o (cM table (aR m.q o table)) 8) o (bm table)⟩, true)
theorem gU {α : Type} {p : α → Bool} {l : List α} {k : Nat} {x y : α} (hx : l[k]? = some x) (hp : p x = false) (hq : p y = false) : (l.set k y).filter p = l.filter p := by
 obtain ⟨hlt, rfl⟩ := List.getElem?_eq_some_iff.1 hx
 have e1 : l = l.take k ++ l[k] :: l.drop (k + 1) := by rw [← List.drop_eq_getElem_cons hlt, List.take_append_drop]
 rw [List.set_eq_take_append_cons_drop, if_pos hlt]
 conv => rhs; rw [e1]
 rw [List.filter_append, List.filter_append, List.filter_cons_of_neg (by simp [hq]), List.filter_cons_of_neg (by simp [hp])]
theorem mR (q : Qm Clm) (o table : Int) : aR q o table = (q.held.filter (fun e => ofE o e && bm table e.c)).map (fun e => e.c) := by
 unfold aR aE
 rw [List.filter_map, List.filter_filter]
 congr 1
 refine List.filter_congr (fun e _ => ?_)
 show (bm table e.c && ofE o e) = _
 rw [Bool.and_comm]
theorem iL {a b : Clm} (h : RC.same a b = true) : a.kind = b.kind := (cp.1 h).1
theorem qD (a b : Clm) : (RC.join a b).kind = a.kind := by
 show (dp a b).kind = a.kind
 unfold dp
 split <;> rfl
theorem jL {q : Qm Clm} {o table : Int} {c : Clm} (hc : c.kind = 1) (t : Int) : aR (aV RC q o c false).1 t table = aR q t table := by
 unfold aV
 split
 ·rfl
 ·split
  ·rfl
  ·rename_i e i he
   obtain ⟨ho, _, hm⟩ := ew he
   have hk : e.c.kind = 1 := by
    rcases hm with ⟨_, _, h, _⟩ | ⟨_, _, k, x, hk, hx, _, h⟩
    ·rw [h]; exact hc
    ·obtain ⟨y, hy, _, hs, _⟩ := dx hk
     rw [hx] at hy
     obtain rfl := Option.some.inj hy
     rw [h, qD, iL hs]; exact hc
   have hrow : bm table e.c = false := by unfold bm; simp [hk]
   split
   ·rw [mR, mR]
    congr 1
    show (bX RC q.held e).filter _ = _
    unfold bX
    split
    ·rename_i k hk2
     obtain ⟨y, hy, _, hs, _⟩ := dx hk2
     have hrow2 : bm table y.c = false := by unfold bm; rw [iL hs, hk]; simp
     exact gU hy (by simp [hrow2]) (by show (ofE t e.less && bm table e.c) = false; simp [hrow])
    ·rw [List.filter_append]
     have : [e.less].filter (fun e => ofE t e && bm table e.c) = [] := by
      rw [List.filter_cons_of_neg (by show ¬ (ofE t e.less && bm table e.c) = true; simp [hrow])]
      rfl
     rw [this, List.append_nil]
   ·rfl
theorem np {m : LkM} {o table many : Int} (h1 : (aR m.q o table).length ≠ 0) (h2 : many < ((aR m.q o table).length : Int)) (h3 : (aV RC m.q o (cM table (aR m.q o table)) false).2 = true) :
  dG m o table many = (⟨(a8 RC (aV RC m.q o (cM table (aR m.q o table)) false).1 (bT o (aR m.q o table))).1, bD (cV m.why o (cM table (aR m.q o table)) 8) o (bm table)⟩, true) := by
 unfold dG
 rw [if_neg (fun h => by
  rcases h with h | h | h
  ·exact h1 h
  ·omega
  ·rw [h3] at h; cases h), jL rfl]
def mM (l : List (Ent Clm)) : Prop := l.Pairwise (fun a b => ¬ (a.o = b.o ∧ RC.same a.c b.c = true))
theorem cS (a b : Clm) : RC.same a b = RC.same b a := gk a b
theorem oB {l : List (Ent Clm)} (h : mM l) (e : Ent Clm) : mM (bX RC l e) := by
 unfold bX
 split
 ·rename_i k hk
  obtain ⟨y, hy, hyo, hys, hlt⟩ := dx hk
  obtain ⟨_, rfl⟩ := List.getElem?_eq_some_iff.1 hy
  unfold mM at h ⊢
  rw [List.pairwise_iff_getElem] at h ⊢
  intro i j hi hj hij
  have hi' : i < l.length := by simpa using hi
  have hj' : j < l.length := by simpa using hj
  have key : ∀ a : Clm, RC.same a e.c = RC.same a l[k].c := fun a => by rw [cS a e.c, cS a l[k].c, dv hys]
  by_cases hik : i = k
  ·subst hik
   rw [List.getElem_set_self, List.getElem_set_ne (by omega)]
   rintro ⟨h1, h2⟩
   refine h i j hi' hj' hij ⟨hyo.trans h1, ?_⟩
   rw [dv hys]
   exact h2
  ·by_cases hjk : j = k
   ·subst hjk
    rw [List.getElem_set_self, List.getElem_set_ne (by omega)]
    rintro ⟨h1, h2⟩
    exact h i j hi' hj' hij ⟨h1.trans hyo.symm, by rw [← key]; exact h2⟩
   ·rw [List.getElem_set_ne (Ne.symm hik), List.getElem_set_ne (Ne.symm hjk)]
    exact h i j hi' hj' hij
 ·rename_i hn
  refine List.pairwise_append.2 ⟨h, List.pairwise_singleton _ _, fun a ha b hb => ?_⟩
  obtain rfl := List.mem_singleton.1 hb
  unfold cB at hn
  have := List.findIdx?_eq_none_iff.1 hn a ha
  unfold cw at this
  rintro ⟨h1, h2⟩
  have h3 : a.o = e.o := h1
  have h4 : RC.same a.c e.c = true := h2
  simp [h3, h4] at this
theorem qx {l : List (Ent Clm)} (e : Ent Clm) (o : Int) (c : Clm) (h : (cB RC (bX RC l e) o c).isNone = true) : (cB RC l o c).isNone = true := by
 rw [Option.isNone_iff_eq_none] at h ⊢
 unfold cB at h ⊢
 rw [List.findIdx?_eq_none_iff] at h ⊢
 intro x hx
 obtain ⟨i, hi, rfl⟩ := List.mem_iff_getElem.1 hx
 unfold bX at h
 split at h
 ·rename_i k hk
  obtain ⟨y, hy, hyo, hys, hlt⟩ := dx hk
  obtain ⟨_, rfl⟩ := List.getElem?_eq_some_iff.1 hy
  by_cases hik : i = k
  ·subst hik
   have h1 := h e.less (List.mem_iff_getElem.2 ⟨i, by simpa using hi, by simp⟩)
   unfold cw at h1 ⊢
   have h2 : RC.same e.less.c c = RC.same l[i].c c := (dv hys).symm
   rw [h2] at h1
   have h3 : e.less.o = l[i].o := hyo.symm
   rw [h3] at h1
   exact h1
  ·exact h l[i] (List.mem_iff_getElem.2 ⟨i, by simpa using hi, by rw [List.getElem_set_ne (Ne.symm hik)]⟩)
 ·exact h l[i] (List.mem_append.2 (.inl (List.getElem_mem hi)))
theorem gn {α : Type} {p p' : α → Bool} : ∀ (l : List α), (∀ x ∈ l, p' x = true → p x = true) → (l.filter p').length ≤ (l.filter p).length
 | [], _ => Nat.le_refl _
 | x :: l, h => by
  have ih := gn l (fun y hy => h y (List.mem_cons_of_mem _ hy))
  have hx := h x (by simp)
  rw [List.filter_cons, List.filter_cons]
  cases h1 : p' x
  ·simp only [Bool.false_eq_true, if_false]
   split
   ·rw [List.length_cons]; omega
   ·exact ih
  ·rw [if_pos rfl, if_pos (hx h1), List.length_cons, List.length_cons]
   omega
theorem sP (m : LkM) (o : Int) (c : Clm) : fi m o c = (cB RC m.q.held o c).isSome := by
 rw [Bool.eq_iff_iff]
 unfold fi aE cB
 rw [List.any_eq_true, List.findIdx?_isSome, List.any_eq_true]
 constructor
 ·rintro ⟨h, hm, hs⟩
  obtain ⟨e, he, rfl⟩ := List.mem_map.1 hm
  obtain ⟨h1, h2⟩ := List.mem_filter.1 he
  refine ⟨e, h1, ?_⟩
  unfold cw
  unfold ofE at h2
  rw [h2, hs]
  rfl
 ·rintro ⟨e, he, hs⟩
  unfold cw at hs
  rw [Bool.and_eq_true] at hs
  exact ⟨e.c, List.mem_map.2 ⟨e, List.mem_filter.2 ⟨he, hs.1⟩, rfl⟩, hs.2⟩
theorem rL {Q : Qm Clm} (h : QOk Q) {w : Ent Clm} (hw : w ∈ Q.waits) : aS Q w.o = (w.c, true) := by
 obtain ⟨i, hi, rfl⟩ := List.mem_iff_getElem.1 hw
 cases hk : b8 Q.waits Q.waits[i].o with
 | none => exact absurd rfl (fc (by rw [hk]; rfl) Q.waits[i] hw)
 | some k =>
  obtain ⟨e, he, heo⟩ := kw hk
  obtain ⟨hlt, rfl⟩ := List.getElem?_eq_some_iff.1 he
  have hki : k = i := by
   rcases Nat.lt_trichotomy k i with h1 | h1 | h1
   ·exact absurd heo (List.pairwise_iff_getElem.1 h.once k i hlt hi h1)
   ·exact h1
   ·exact absurd heo.symm (List.pairwise_iff_getElem.1 h.once i k hi hlt h1)
  subst hki
  unfold aS
  rw [hk]
  dsimp only
  rw [he]
end Go.Proofs.YtgljdkjepdknnaaGreatDoor
