/- The log's contracts as the laws use them: the log's blocks were made behind a start w0 and are none of A's. -/
import Derived.Test.YtokcpmeoiblpfaaUndo9
namespace Go.Proofs.Ytokcpmeoiblpfaa
open Go.ChangeShapes Go.WideShapes Go.ChangeAt Go.RowKit
set_option maxRecDepth 100000

/-- a log at b that was made behind w0; none of its blocks is one of A -/
def LogIn (w0 w : World) (b : Nat) (m : LogM) (A : Nat → Prop) : Prop :=
  ∃ S, LogAt w b m S ∧ (∀ k, S k → w0.heap.size ≤ k ∧ ¬ A k) ∧ (∀ k, A k → k < w.heap.size) ∧ Kept (fun _ => False) w0 w
/-- what a call may change -/
abbrev Out (w0 : World) (A : Nat → Prop) (k : Nat) : Prop := w0.heap.size ≤ k ∧ ¬ A k

theorem LogIn.kept0 {w0 w : World} {b : Nat} {m : LogM} {A : Nat → Prop} (h : LogIn w0 w b m A) : Kept (fun _ => False) w0 w := by obtain ⟨S, _, _, _, h⟩ := h; exact h
theorem LogIn.frame {w0 w w1 : World} {b : Nat} {m : LogM} {A : Nat → Prop} (h : LogIn w0 w b m A) (hk : Kept (fun _ => False) w w1) : LogIn w0 w1 b m A := by
  obtain ⟨S, h1, h2, h3, h4⟩ := h
  exact ⟨S, h1.frame hk (fun _ _ h => h), h2, fun k hA => Nat.lt_of_lt_of_le (h3 k hA) hk.size, h4.trans hk (fun _ h => h.elim)⟩
/-- other blocks of A may be written -/
theorem LogIn.frameA {w0 w w1 : World} {b : Nat} {m : LogM} {A T : Nat → Prop} (h : LogIn w0 w b m A) (hk : Kept T w w1) (hT : ∀ k, T k → A k ∧ w0.heap.size ≤ k) : LogIn w0 w1 b m A := by
  obtain ⟨S, h1, h2, h3, h4⟩ := h
  exact ⟨S, h1.frame hk (fun k hs ht => (h2 k hs).2 (hT k ht).1), h2, fun k hA => Nat.lt_of_lt_of_le (h3 k hA) hk.size, h4.trans hk (fun k h => .inr (hT k h).2)⟩
theorem LogIn.weaken {w0 w : World} {b : Nat} {m : LogM} {A B : Nat → Prop} (h : LogIn w0 w b m A) (hB : ∀ k, B k → A k) : LogIn w0 w b m B := by
  obtain ⟨S, h1, h2, h3, h4⟩ := h
  exact ⟨S, h1, fun k hs => ⟨(h2 k hs).1, fun hb => (h2 k hs).2 (hB k hb)⟩, fun k hb => h3 k (hB k hb), h4⟩
/-- more that the log has not -/
theorem LogIn.more {w0 w w1 : World} {b : Nat} {m : LogM} {A B : Nat → Prop} (h : LogIn w0 w b m A) (hk : Kept (fun _ => False) w w1) (hB : ∀ k, B k → NewIn w w1 k) : LogIn w0 w1 b m (fun k => A k ∨ B k) := by
  obtain ⟨S, h1, h2, h3, h4⟩ := h
  refine ⟨S, h1.frame hk (fun _ _ h => h), fun k hs => ⟨(h2 k hs).1, fun hc => hc.elim (h2 k hs).2 (fun hb => by have := h1.lt k hs; have := (hB k hb).1; omega)⟩, fun k hc => hc.elim (fun hA => Nat.lt_of_lt_of_le (h3 k hA) hk.size) (fun hb => (hB k hb).2), h4.trans hk (fun _ h => h.elim)⟩

theorem new_in {w0 w : World} (r : Int) (h0 : Kept (fun _ => False) w0 w) :
    Calls Try.prog 9 #[.int .i64 r] w fun e w' => ∃ b, e = .returned (.pointer (some ⟨b, 0, none⟩)) ∧ LogIn w0 w' b (newM r) (fun k => w0.heap.size ≤ k ∧ k < w.heap.size) ∧ Kept (fun _ => False) w w' := by
  refine (new_any r w).mono ?_
  rintro e w' ⟨rfl, h1, h2, h3⟩
  have hz := h0.size
  exact ⟨_, rfl, ⟨_, h1, fun k hk => ⟨by omega, by omega⟩, fun k hk => by omega, h0.trans h2 (fun _ h => h.elim)⟩, h2⟩

theorem len_in {w0 w : World} {b : Nat} {m : LogM} {A : Nat → Prop} (h : LogIn w0 w b m A) :
    Calls Try.prog 13 #[.pointer (some ⟨b, 0, none⟩)] w fun e w' => e = .returned (.int .i64 m.es.length) ∧ LogIn w0 w' b m A ∧ Kept (fun _ => False) w w' := by
  obtain ⟨S, h1, _⟩ := id h
  refine (len_any h1).mono ?_
  rintro e w' ⟨rfl, h2⟩
  exact ⟨rfl, h.frame h2, h2⟩

theorem save_in {w0 w : World} {b : Nat} {m : LogM} {A : Nat → Prop} (n : Int) (hn : 1 ≤ n ∧ n ≤ 3) (hl : m.es.length ≤ 60) (h : LogIn w0 w b m A) :
    Calls Try.prog 11 #[.pointer (some ⟨b, 0, none⟩), .int .i64 n] w fun e w' => e = .returned (.int .i64 0) ∧ LogIn w0 w' b (m.setS n (m.es.length + 1)) A ∧ Kept (Out w0 A) w w' := by
  obtain ⟨S, h1, h2, h3, h4⟩ := h
  refine (save_yes n hn hl h1).mono ?_
  rintro e w' ⟨rfl, h5, h6, h7⟩
  have hb : S b := by obtain ⟨mb, lv, ov, _, hS⟩ := h1; exact (hS b).2 (.inl rfl)
  refine ⟨rfl, ⟨S, h5, h2, fun k hA => by rw [h7]; exact h3 k hA, h4.trans h6 (fun k e => .inr (by rw [e]; exact (h2 b hb).1))⟩, h6.mono (fun k _ e => by rw [e]; exact h2 b hb)⟩

theorem push_in {w0 w : World} {b : Nat} {m : LogM} {A : Nat → Prop} (e : Ent) {n : Nat} {xs : List Value} (hr : m.es.length < m.room) (hr6 : m.room ≤ 60) (hrd : Rd w 3 e.was n xs) (hone : ∀ u ∈ xs, u.oneCell' = true) (hb : n * 32 ≤ 140737488355328)
    (hwf : e.spot.wf) (hmet : m.met.length ≤ 1000) (h : LogIn w0 w b m A) :
    Calls Try.prog 12 #[.pointer (some ⟨b, 0, none⟩), .agg e.cells.toArray] w fun e' w' => e' = .returned (.int .i64 0) ∧
      ∃ wv, LogIn w0 w' b { m with es := m.es ++ [⟨e.t, e.k, wv⟩], met := addMet m.met ⟨e.t, e.k⟩ } (fun k => A k ∨ wv.ownBlock = some k) ∧ Own w' 23 3 wv n xs ∧ Kept (Out w0 A) w w' := by
  obtain ⟨S, h1, h2, h3, h4⟩ := h
  refine (push_ok e h1 hr hr6 hrd hone hb hwf hmet).mono ?_
  rintro e' w' ⟨rfl, wv, S', h5, h6, h7, h8, h9⟩
  have hz := h4.size
  refine ⟨rfl, wv, ⟨S', h5, fun k hk => ⟨?_, ?_⟩, fun k hk => ?_, h4.trans h7 (fun k hk => .inr (h2 k hk).1)⟩, h6, h7.mono (fun k _ hk => h2 k hk)⟩
  · rcases h8 k hk with hs | hs
    · exact (h2 k hs).1
    · have := hs.1; omega
  · rintro (hA | hv)
    · rcases h8 k hk with hs | hs
      · exact (h2 k hs).2 hA
      · have := hs.1; have := h3 k hA; omega
    · exact (h9 k hv).2 hk
  · rcases hk with hA | hv
    · exact Nat.lt_of_lt_of_le (h3 k hA) h7.size
    · exact (h9 k hv).1.2

theorem full_in {w0 w : World} {b : Nat} {m : LogM} {A : Nat → Prop} (e : Ent) (hr : m.room ≤ m.es.length) (h : LogIn w0 w b m A) :
    Calls Try.prog 12 #[.pointer (some ⟨b, 0, none⟩), .agg e.cells.toArray] w fun e' w' => e' = .returned (.int .i64 62) ∧ LogIn w0 w' b m A ∧ Kept (fun _ => False) w w' := by
  obtain ⟨S, h1, h2⟩ := id h
  refine (push_full e h1 hr).mono ?_
  rintro e' w' ⟨rfl, _, hk⟩
  exact ⟨rfl, h.frame hk, hk⟩

theorem backno_in {w0 w : World} {b : Nat} {m : LogM} {A : Nat → Prop} (n : Int) (hn : n < 1 ∨ 3 < n ∨ m.getS n = 0) (h : LogIn w0 w b m A) :
    Calls Try.prog 10 #[.pointer (some ⟨b, 0, none⟩), .int .i64 n] w fun e w' => e = .returned (.tuple #[.slice none 0 0, .int .i64 70]) ∧ w' = w := by
  obtain ⟨S, h1, h2⟩ := id h
  exact back_no n h1 hn

theorem back_in {w0 w : World} {b : Nat} {m : LogM} {A : Nat → Prop} (n : Int) (h60 : m.es.length ≤ 60) (hn : 1 ≤ n ∧ n ≤ 3) (h1 : 1 ≤ m.getS n) (hl : m.getS n ≤ m.es.length + 1) (h : LogIn w0 w b m A) :
    Calls Try.prog 10 #[.pointer (some ⟨b, 0, none⟩), .int .i64 n] w fun e w' => ∃ ao cap, e = .returned (.tuple #[.slice ao (m.es.length - (m.getS n - 1).toNat) cap, .int .i64 0]) ∧
      Own w' tEnt 5 (.slice ao (m.es.length - (m.getS n - 1).toNat) cap) (m.es.length - (m.getS n - 1).toNat) ((m.es.drop (m.getS n - 1).toNat).reverse.flatMap Ent.cells) ∧
      LogIn w0 w' b (m.back (m.getS n)) (fun k => A k ∨ (Value.slice ao (m.es.length - (m.getS n - 1).toNat) cap).ownBlock = some k) ∧ Kept (Out w0 A) w w' := by
  obtain ⟨S, h2, h3, h4, h5⟩ := h
  refine (back_yes n h60 h2 hn h1 hl).mono ?_
  rintro e w' ⟨ao, cap, rfl, ⟨h6, h7⟩, h8, h9⟩
  refine ⟨ao, cap, rfl, h6, ⟨S, h8, fun k hk => ⟨(h3 k hk).1, ?_⟩, fun k hk => ?_, h5.trans h9 (fun k hk => .inr (h3 k hk).1)⟩, h9.mono (fun k _ hk => h3 k hk)⟩
  · rintro (hA | hv)
    · exact (h3 k hk).2 hA
    · exact (h7 k hv).2 hk
  · rcases hk with hA | hv
    · exact Nat.lt_of_lt_of_le (h4 k hA) h9.size
    · exact (h7 k hv).1.2

theorem all_in {w0 w : World} {b : Nat} {m : LogM} {A : Nat → Prop} (h60 : m.es.length ≤ 60) (h : LogIn w0 w b m A) :
    Calls Try.prog 15 #[.pointer (some ⟨b, 0, none⟩)] w fun e w' => ∃ ao cap, e = .returned (.slice ao m.es.length cap) ∧
      Own w' tEnt 5 (.slice ao m.es.length cap) m.es.length (m.es.reverse.flatMap Ent.cells) ∧
      LogIn w0 w' b (newM m.room) (fun k => A k ∨ (Value.slice ao m.es.length cap).ownBlock = some k) ∧ Kept (Out w0 A) w w' := by
  obtain ⟨S, h2, h3, h4, h5⟩ := h
  refine (all_ok h60 h2).mono ?_
  rintro e w' ⟨ao, cap, S', rfl, ⟨h6, h7⟩, h8, h9, h10⟩
  have hz := h5.size
  refine ⟨ao, cap, rfl, h6, ⟨S', h8, fun k hk => ⟨?_, ?_⟩, fun k hk => ?_, h5.trans h9 (fun k hk => .inr (h3 k hk).1)⟩, h9.mono (fun k _ hk => h3 k hk)⟩
  · rcases h10 k hk with hs | hs
    · exact (h3 k hs).1
    · have := hs.1; omega
  · rintro (hA | hv)
    · rcases h10 k hk with hs | hs
      · exact (h3 k hs).2 hA
      · have := hs.1; have := h4 k hA; omega
    · exact (h7 k hv).2 hk
  · rcases hk with hA | hv
    · exact Nat.lt_of_lt_of_le (h4 k hA) h9.size
    · exact (h7 k hv).1.2

theorem touched_in {w0 w : World} {b : Nat} {m : LogM} {A : Nat → Prop} (hmet : m.met.length ≤ 1000) (h : LogIn w0 w b m A) :
    Calls Try.prog 14 #[.pointer (some ⟨b, 0, none⟩)] w fun e w' => ∃ ao cap, e = .returned (.slice ao m.met.length cap) ∧
      Own w' tEnt 5 (.slice ao m.met.length cap) m.met.length ((m.met.map Spot.ent).flatMap Ent.cells) ∧
      LogIn w0 w' b m (fun k => A k ∨ (Value.slice ao m.met.length cap).ownBlock = some k) ∧ Kept (fun _ => False) w w' := by
  obtain ⟨S, h2, h3⟩ := id h
  refine (touched_ok hmet h2).mono ?_
  rintro e w' ⟨ao, cap, rfl, ⟨h6, h7⟩, h8⟩
  exact ⟨ao, cap, rfl, h6, h.more h8 (fun k hk => (h7 k hk).1), h8⟩

/-! ### the same, with the savepoints as a function -/
def St (w0 w : World) (b : Nat) (A : Nat → Prop) (room : Int) (es : List Ent) (sv : Int → Int) (met : List Spot) : Prop :=
  ∃ m, LogIn w0 w b m A ∧ m.room = room ∧ m.es = es ∧ (∀ n, 1 ≤ n → n ≤ 3 → m.getS n = sv n) ∧ m.met = met

theorem St.frame {w0 w w1 : World} {b : Nat} {A : Nat → Prop} {room : Int} {es : List Ent} {sv : Int → Int} {met : List Spot} (h : St w0 w b A room es sv met) (hk : Kept (fun _ => False) w w1) : St w0 w1 b A room es sv met := by
  obtain ⟨m, h1, h2⟩ := h; exact ⟨m, h1.frame hk, h2⟩
theorem St.frameA {w0 w w1 : World} {b : Nat} {A T : Nat → Prop} {room : Int} {es : List Ent} {sv : Int → Int} {met : List Spot} (h : St w0 w b A room es sv met) (hk : Kept T w w1) (hT : ∀ k, T k → A k ∧ w0.heap.size ≤ k) : St w0 w1 b A room es sv met := by
  obtain ⟨m, h1, h2⟩ := h; exact ⟨m, h1.frameA hk hT, h2⟩
theorem St.weaken {w0 w : World} {b : Nat} {A B : Nat → Prop} {room : Int} {es : List Ent} {sv : Int → Int} {met : List Spot} (h : St w0 w b A room es sv met) (hB : ∀ k, B k → A k) : St w0 w b B room es sv met := by
  obtain ⟨m, h1, h2⟩ := h; exact ⟨m, h1.weaken hB, h2⟩
theorem St.kept0 {w0 w : World} {b : Nat} {A : Nat → Prop} {room : Int} {es : List Ent} {sv : Int → Int} {met : List Spot} (h : St w0 w b A room es sv met) : Kept (fun _ => False) w0 w := by
  obtain ⟨m, h1, h2⟩ := h; exact h1.kept0

theorem getS_set (m : LogM) (n v : Int) (k : Int) (hn : 1 ≤ n ∧ n ≤ 3) (hk : 1 ≤ k ∧ k ≤ 3) : (m.setS n v).getS k = if k = n then v else m.getS k := by
  obtain ⟨_, _⟩ := hn
  obtain ⟨_, _⟩ := hk
  have h1 : n = 1 ∨ n = 2 ∨ n = 3 := by omega
  have h2 : k = 1 ∨ k = 2 ∨ k = 3 := by omega
  rcases h1 with rfl | rfl | rfl <;> rcases h2 with rfl | rfl | rfl <;> rfl
theorem setS_es (m : LogM) (n v : Int) : (m.setS n v).es = m.es ∧ (m.setS n v).room = m.room ∧ (m.setS n v).met = m.met := by unfold LogM.setS; split; exact ⟨rfl, rfl, rfl⟩; split <;> exact ⟨rfl, rfl, rfl⟩
theorem getS_back (m : LogM) (at_ : Int) (k : Int) : (m.back at_).getS k = gone at_ (m.getS k) := by
  unfold LogM.getS LogM.back LogM.goneTo
  split
  · rfl
  · split <;> rfl
theorem getS_new (r k : Int) : (newM r).getS k = 0 := by unfold LogM.getS newM; split; rfl; split <;> rfl

section
variable {w0 w : World} {b : Nat} {A : Nat → Prop} {room : Int} {es : List Ent} {sv : Int → Int} {met : List Spot}

theorem new_st (r : Int) (h0 : Kept (fun _ => False) w0 w) :
    Calls Try.prog 9 #[.int .i64 r] w fun e w' => ∃ b, e = .returned (.pointer (some ⟨b, 0, none⟩)) ∧ St w0 w' b (fun k => w0.heap.size ≤ k ∧ k < w.heap.size) (clampI r) [] (fun _ => 0) [] := by
  refine (new_in r h0).mono ?_
  rintro e w' ⟨b, rfl, h1, _⟩
  exact ⟨b, rfl, _, h1, rfl, rfl, fun n _ _ => getS_new r n, rfl⟩

theorem len_st (h : St w0 w b A room es sv met) :
    Calls Try.prog 13 #[.pointer (some ⟨b, 0, none⟩)] w fun e w' => e = .returned (.int .i64 es.length) ∧ St w0 w' b A room es sv met ∧ Kept (fun _ => False) w w' := by
  obtain ⟨m, h1, rfl, rfl, h4, rfl⟩ := h
  refine (len_in h1).mono ?_
  rintro e w' ⟨rfl, h2, h3⟩
  exact ⟨rfl, ⟨m, h2, rfl, rfl, h4, rfl⟩, h3⟩

theorem save_st (n : Int) (hn : 1 ≤ n ∧ n ≤ 3) (hl : es.length ≤ 60) (h : St w0 w b A room es sv met) :
    Calls Try.prog 11 #[.pointer (some ⟨b, 0, none⟩), .int .i64 n] w fun e w' => e = .returned (.int .i64 0) ∧ St w0 w' b A room es (fun k => if k = n then es.length + 1 else sv k) met ∧ Kept (Out w0 A) w w' := by
  obtain ⟨m, h1, rfl, rfl, h4, rfl⟩ := h
  refine (save_in n hn hl h1).mono ?_
  rintro e w' ⟨rfl, h2, h3⟩
  obtain ⟨e1, e2, e3⟩ := setS_es m n (m.es.length + 1)
  refine ⟨rfl, ⟨_, h2, e2, e1, fun k k1 k3 => ?_, e3⟩, h3⟩
  rw [getS_set m n _ k hn ⟨k1, k3⟩, h4 k k1 k3]

theorem push_st (e : Ent) {n : Nat} {xs : List Value} (hr : es.length < room) (hr6 : room ≤ 60) (hrd : Rd w 3 e.was n xs) (hone : ∀ u ∈ xs, u.oneCell' = true) (hb : n * 32 ≤ 140737488355328)
    (hwf : e.spot.wf) (hmet : met.length ≤ 1000) (h : St w0 w b A room es sv met) :
    Calls Try.prog 12 #[.pointer (some ⟨b, 0, none⟩), .agg e.cells.toArray] w fun e' w' => e' = .returned (.int .i64 0) ∧
      ∃ wv, St w0 w' b (fun k => A k ∨ wv.ownBlock = some k) room (es ++ [⟨e.t, e.k, wv⟩]) sv (addMet met ⟨e.t, e.k⟩) ∧ Own w' 23 3 wv n xs ∧ Kept (Out w0 A) w w' := by
  obtain ⟨m, h1, rfl, rfl, h4, rfl⟩ := h
  refine (push_in e hr hr6 hrd hone hb hwf hmet h1).mono ?_
  rintro e' w' ⟨rfl, wv, h2, h3, h5⟩
  exact ⟨rfl, wv, ⟨_, h2, rfl, rfl, h4, rfl⟩, h3, h5⟩

theorem full_st (e : Ent) (hr : room ≤ es.length) (h : St w0 w b A room es sv met) :
    Calls Try.prog 12 #[.pointer (some ⟨b, 0, none⟩), .agg e.cells.toArray] w fun e' w' => e' = .returned (.int .i64 62) ∧ St w0 w' b A room es sv met ∧ Kept (fun _ => False) w w' := by
  obtain ⟨m, h1, rfl, rfl, h4, rfl⟩ := h
  refine (full_in e hr h1).mono ?_
  rintro e' w' ⟨rfl, h2, h3⟩
  exact ⟨rfl, ⟨m, h2, rfl, rfl, h4, rfl⟩, h3⟩

theorem backno_st (n : Int) (hn : n < 1 ∨ 3 < n ∨ sv n = 0) (h : St w0 w b A room es sv met) :
    Calls Try.prog 10 #[.pointer (some ⟨b, 0, none⟩), .int .i64 n] w fun e w' => e = .returned (.tuple #[.slice none 0 0, .int .i64 70]) ∧ w' = w := by
  obtain ⟨m, h1, rfl, rfl, h4, rfl⟩ := h
  refine backno_in n ?_ h1
  by_cases a : n < 1
  · exact .inl a
  · by_cases c : 3 < n
    · exact .inr (.inl c)
    · exact .inr (.inr (by rw [h4 n (by omega) (by omega)]; omega))

theorem back_st (n : Int) (at_ : Nat) (h60 : es.length ≤ 60) (hn : 1 ≤ n ∧ n ≤ 3) (h1 : sv n = at_ + 1) (hl : at_ ≤ es.length) (h : St w0 w b A room es sv met) :
    Calls Try.prog 10 #[.pointer (some ⟨b, 0, none⟩), .int .i64 n] w fun e w' => ∃ ao cap, e = .returned (.tuple #[.slice ao (es.length - at_) cap, .int .i64 0]) ∧
      Own w' tEnt 5 (.slice ao (es.length - at_) cap) (es.length - at_) ((es.drop at_).reverse.flatMap Ent.cells) ∧
      St w0 w' b (fun k => A k ∨ (Value.slice ao (es.length - at_) cap).ownBlock = some k) room (es.take at_) (fun k => gone (at_ + 1) (sv k)) met ∧ Kept (Out w0 A) w w' := by
  obtain ⟨m, h2, rfl, rfl, h4, rfl⟩ := h
  have hs : m.getS n = at_ + 1 := by rw [h4 n hn.1 hn.2, h1]
  have e1 : (m.getS n - 1).toNat = at_ := by omega
  have := back_in n h60 hn (by omega) (by omega) h2
  rw [e1, hs] at this
  refine this.mono ?_
  rintro e w' ⟨ao, cap, rfl, h5, h6, h7⟩
  refine ⟨ao, cap, rfl, h5, ⟨_, h6, rfl, ?_, fun k k1 k3 => ?_, rfl⟩, h7⟩
  · show m.es.take ((at_ : Int) + 1 - 1).toNat = _
    rw [show ((at_ : Int) + 1 - 1).toNat = at_ by omega]
  · rw [getS_back, h4 k k1 k3]

/-- the same, with names for what comes out -/
theorem back_as (n : Int) (at_ : Nat) {L : Nat} {R es' : List Ent} {sv' : Int → Int} (h60 : es.length ≤ 60) (hn : 1 ≤ n ∧ n ≤ 3) (h1 : sv n = at_ + 1) (hl : at_ ≤ es.length) (hL : es.length - at_ = L) (hR : (es.drop at_).reverse = R) (he : es.take at_ = es') (hv : (fun k => gone (at_ + 1) (sv k)) = sv') (h : St w0 w b A room es sv met) :
    Calls Try.prog 10 #[.pointer (some ⟨b, 0, none⟩), .int .i64 n] w fun e w' => ∃ ao cap, e = .returned (.tuple #[.slice ao L cap, .int .i64 0]) ∧
      Own w' tEnt 5 (.slice ao L cap) L (R.flatMap Ent.cells) ∧
      St w0 w' b (fun k => A k ∨ (Value.slice ao L cap).ownBlock = some k) room es' sv' met ∧ Kept (Out w0 A) w w' := by
  subst hL hR he hv
  exact back_st n at_ h60 hn h1 hl h

theorem all_st (h60 : es.length ≤ 60) (h : St w0 w b A room es sv met) :
    Calls Try.prog 15 #[.pointer (some ⟨b, 0, none⟩)] w fun e w' => ∃ ao cap, e = .returned (.slice ao es.length cap) ∧
      Own w' tEnt 5 (.slice ao es.length cap) es.length (es.reverse.flatMap Ent.cells) ∧
      St w0 w' b (fun k => A k ∨ (Value.slice ao es.length cap).ownBlock = some k) (clampI room) [] (fun _ => 0) [] ∧ Kept (Out w0 A) w w' := by
  obtain ⟨m, h2, rfl, rfl, h4, rfl⟩ := h
  refine (all_in h60 h2).mono ?_
  rintro e w' ⟨ao, cap, rfl, h5, h6, h7⟩
  exact ⟨ao, cap, rfl, h5, ⟨_, h6, rfl, rfl, fun n _ _ => getS_new _ n, rfl⟩, h7⟩

theorem all_as {L : Nat} {R : List Ent} {room' : Int} (h60 : es.length ≤ 60) (hL : es.length = L) (hR : es.reverse = R) (hr : clampI room = room') (h : St w0 w b A room es sv met) :
    Calls Try.prog 15 #[.pointer (some ⟨b, 0, none⟩)] w fun e w' => ∃ ao cap, e = .returned (.slice ao L cap) ∧
      Own w' tEnt 5 (.slice ao L cap) L (R.flatMap Ent.cells) ∧
      St w0 w' b (fun k => A k ∨ (Value.slice ao L cap).ownBlock = some k) room' [] (fun _ => 0) [] ∧ Kept (Out w0 A) w w' := by
  subst hL hR hr
  exact all_st h60 h

theorem touched_st (hmet : met.length ≤ 1000) (h : St w0 w b A room es sv met) :
    Calls Try.prog 14 #[.pointer (some ⟨b, 0, none⟩)] w fun e w' => ∃ ao cap, e = .returned (.slice ao met.length cap) ∧
      Own w' tEnt 5 (.slice ao met.length cap) met.length ((met.map Spot.ent).flatMap Ent.cells) ∧
      St w0 w' b (fun k => A k ∨ (Value.slice ao met.length cap).ownBlock = some k) room es sv met ∧ Kept (fun _ => False) w w' := by
  obtain ⟨m, h2, rfl, rfl, h4, rfl⟩ := h
  refine (touched_in hmet h2).mono ?_
  rintro e w' ⟨ao, cap, rfl, h5, h6, h7⟩
  exact ⟨ao, cap, rfl, h5, ⟨_, h6, rfl, rfl, h4, rfl⟩, h7⟩
end

theorem addMet_len (l : List Spot) (p : Spot) : (addMet l p).length ≤ l.length + 1 := by unfold addMet; split <;> simp
end Go.Proofs.Ytokcpmeoiblpfaa
