/- The log's contracts over what is owned and what all may read. -/
import Derived.Test.YtokcpmeoiblpfaaUndo9
import Derived.Test.YtokcpmeoiblpfaaSep
namespace Go.Proofs.Ytokcpmeoiblpfaa
open Go.ChangeShapes Go.WideShapes Go.ChangeAt Go.RowKit
set_option maxRecDepth 100000

theorem LogAt.same {w w' : World} {b : Nat} {m : LogM} {S : Nat → Prop} (h : LogAt w b m S) (hk : ∀ k, S k → w'.heap[k]? = w.heap[k]?) : LogAt w' b m S := by
  obtain ⟨mb, lv, ov, h1, h2⟩ := h
  have f : ∀ k, LogS b mb lv ov k → w'.heap[k]? = w.heap[k]? := fun k hk' => hk k ((h2 k).2 hk')
  exact ⟨mb, lv, ov, ⟨(f b (.inl rfl)).trans h1.blk, h1.own.frame (fun g hg _ => f g (.inr (.inr (.inl hg)))), h1.ord.frame (fun g hg _ => f g (.inr (.inr (.inr hg)))),
    h1.map.frame (f mb (.inr (.inl rfl))), h1.ne1, h1.ne2, h1.ne3, h1.ne4, h1.ne5, h1.ne6⟩, h2⟩

/-- a log at b -/
def logP (b : Nat) (m : LogM) : HP := fun h => ∃ w S, LogAt w b m S ∧ ∀ k, S k → h k = w.heap[k]?

section
variable {B w w' : World} {D : PH} {l : List HP} {b : Nat} {m : LogM}

open Classical in
noncomputable def onSet (w : World) (S : Nat → Prop) : PH := fun k => if S k then w.heap[k]? else none
theorem onSet_le (w : World) (S : Nat → Prop) : PH.le (onSet w S) (heapOf w) := fun k o h => by unfold onSet at h; split at h; exact h; cases h
theorem onSet_some {w : World} {S : Nat → Prop} {k : Nat} {o : Obj} (h : onSet w S k = some o) : S k := by unfold onSet at h; split at h; assumption; cases h
theorem onSet_in {w : World} {S : Nat → Prop} {k : Nat} (h : S k) : onSet w S k = w.heap[k]? := by unfold onSet; rw [if_pos h]

theorem log_open {h1 : PH} (le : PH.le h1 (heapOf w)) (H : logP b m h1) : ∃ S, LogAt w b m S ∧ ∀ k, S k → h1 k ≠ none := by
  obtain ⟨w1, S, h2, h3⟩ := H
  have hne : ∀ k, S k → h1 k ≠ none := fun k hk => by rw [h3 k hk, Array.getElem?_eq_getElem (h2.lt k hk)]; simp
  refine ⟨S, h2.same (fun k hk => ?_), hne⟩
  have := hne k hk
  cases h4 : h1 k with
  | none => exact absurd h4 this
  | some o =>
    rw [← h3 k hk, h4]
    exact le k o h4
theorem Sat.log_new (hs : Sat B D w l) {S : Nat → Prop} (h : LogAt w' b m S) (hk : Kept (fun _ => False) w w') (hn : ∀ k, S k → w.heap.size ≤ k) : Sat B D w' (logP b m :: l) :=
  hs.new hk (onSet w' S) (onSet_le _ _) ⟨w', S, h, fun _ hk => onSet_in hk⟩ (fun k _ h => hn k (onSet_some h))
/-- the log, and what to do with it behind a call -/
theorem Sat.log (hs : Sat B D w (logP b m :: l)) : ∃ S, LogAt w b m S ∧
    (∀ {w' m' S'}, LogAt w' b m' S' → Kept S w w' → (∀ k, S' k → S k ∨ NewIn w w' k) → Sat B D w' (logP b m' :: l)) ∧
    (∀ {w' m' S' e size v n xs}, LogAt w' b m' S' → Kept S w w' → (∀ k, S' k → S k ∨ NewIn w w' k) → Own w' e size v n xs → (∀ g, v.ownBlock = some g → NewIn w w' g ∧ ¬ S' g) → Sat B D w' (ownS e size v n xs :: logP b m' :: l)) := by
  obtain ⟨h1, le, H⟩ := hs.get 0 rfl
  obtain ⟨S, hL, _⟩ := log_open le H
  have hb : S b := by obtain ⟨mb, lv, ov, _, hS⟩ := hL; exact (hS b).2 (.inl rfl)
  refine ⟨S, hL, ?_, ?_⟩
  all_goals
    intro w' m' S'
  · intro h2 hk hn
    refine hs.step fun k1 kle K => ?_
    obtain ⟨S2, hL2, hne⟩ := log_open kle K
    have e : ∀ k, S k ↔ S2 k := by
      obtain ⟨mb, lv, ov, r1, r2⟩ := hL
      obtain ⟨mb2, lv2, ov2, r3, r4⟩ := hL2
      have e := r1.blk.symm.trans r3.blk
      simp [logCells] at e
      obtain ⟨rfl, rfl, rfl⟩ := e
      exact fun k => (r2 k).trans (r4 k).symm
    exact ⟨hk.mono (fun k _ h => hne k ((e k).1 h)), onSet w' S', onSet_le _ _, ⟨w', S', h2, fun _ hk => onSet_in hk⟩, fun k _ h => (hn k (onSet_some h)).imp (fun h => hne k ((e k).1 h)) (fun h => h.1)⟩
  · intro e size v n xs h2 hk hn ho hv
    refine Sat.ungroup (L := [ownS e size v n xs, logP b m']) (hs.step fun k1 kle K => ?_)
    obtain ⟨S2, hL2, hne⟩ := log_open kle K
    have e : ∀ k, S k ↔ S2 k := by
      obtain ⟨mb, lv, ov, r1, r2⟩ := hL
      obtain ⟨mb2, lv2, ov2, r3, r4⟩ := hL2
      have e := r1.blk.symm.trans r3.blk
      simp [logCells] at e
      obtain ⟨rfl, rfl, rfl⟩ := e
      exact fun k => (r2 k).trans (r4 k).symm
    refine ⟨hk.mono (fun k _ h => hne k ((e k).1 h)), onSet w' (fun k => S' k ∨ v.ownBlock = some k), onSet_le _ _, ⟨under w' v, onSet w' S', fun k => ?_, fun k o h => ?_, fun k o h => ?_, under_own ho, onSet w' S', fun _ => none, fun _ => .inr rfl, PH.le.refl _, PH.le.none _, ⟨w', S', h2, fun _ hk => onSet_in hk⟩, trivial⟩, fun k _ h => ?_⟩
    · cases hu : under w' v k with
      | none => exact .inl rfl
      | some o =>
        refine .inr ?_
        have := (hv k (under_some hu)).2
        unfold onSet
        rw [if_neg this]
    · rw [onSet_in (.inr (under_some h))]; exact under_le _ _ _ _ h
    · rw [onSet_in (.inl (onSet_some h))]; exact onSet_le _ _ _ _ h
    · rcases onSet_some h with h | h
      · exact (hn k h).imp (fun h => hne k ((e k).1 h)) (fun h => h.1)
      · exact .inr (hv k h).1.1

theorem new_p (r : Int) (hs : Sat B D w l) :
    Calls Try.prog 9 #[.int .i64 r] w fun e w' => ∃ b, e = .returned (.pointer (some ⟨b, 0, none⟩)) ∧ Sat B D w' (logP b (newM r) :: l) := by
  refine (new_any r w).mono ?_
  rintro e w' ⟨rfl, h1, h2, h3⟩
  exact ⟨_, rfl, hs.log_new h1 h2 (fun k hk => by omega)⟩
theorem len_p (hs : Sat B D w (logP b m :: l)) :
    Calls Try.prog 13 #[.pointer (some ⟨b, 0, none⟩)] w fun e w' => e = .returned (.int .i64 m.es.length) ∧ Sat B D w' (logP b m :: l) := by
  obtain ⟨S, h1, _⟩ := hs.log
  refine (len_any h1).mono ?_
  rintro e w' ⟨rfl, h2⟩
  exact ⟨rfl, hs.kept h2⟩
theorem save_p (n : Int) (hn : 1 ≤ n ∧ n ≤ 3) (hl : m.es.length ≤ 60) (hs : Sat B D w (logP b m :: l)) :
    Calls Try.prog 11 #[.pointer (some ⟨b, 0, none⟩), .int .i64 n] w fun e w' => e = .returned (.int .i64 0) ∧ Sat B D w' (logP b (m.setS n (m.es.length + 1)) :: l) := by
  obtain ⟨S, h1, h2, _⟩ := hs.log
  have hb : S b := by obtain ⟨mb, lv, ov, _, hS⟩ := h1; exact (hS b).2 (.inl rfl)
  refine (save_yes n hn hl h1).mono ?_
  rintro e w' ⟨rfl, h3, h4, _⟩
  exact ⟨rfl, h2 h3 (h4.mono (fun k _ e => by rw [e]; exact hb)) (fun k hk => .inl hk)⟩
theorem push_p (e : Ent) {n : Nat} {xs : List Value} (hr : m.es.length < m.room) (hr6 : m.room ≤ 60) (hrd : RdP D 3 e.was n xs) (hone : ∀ u ∈ xs, u.oneCell' = true) (hb : n * 32 ≤ 140737488355328)
    (hwf : e.spot.wf) (hmet : m.met.length ≤ 1000) (hs : Sat B D w (logP b m :: l)) :
    Calls Try.prog 12 #[.pointer (some ⟨b, 0, none⟩), .agg e.cells.toArray] w fun e' w' => e' = .returned (.int .i64 0) ∧
      ∃ D' wv, PH.le D D' ∧ RdP D' 3 wv n xs ∧ Sat B D' w' (logP b { m with es := m.es ++ [⟨e.t, e.k, wv⟩], met := addMet m.met ⟨e.t, e.k⟩ } :: l) := by
  obtain ⟨S, h1, _, h2⟩ := hs.log
  refine (push_ok e h1 hr hr6 (hrd.rd hs) hone hb hwf hmet).mono ?_
  rintro e' w' ⟨rfl, wv, S', h5, h6, h7, h8, h9⟩
  obtain ⟨D', g1, g2, g3⟩ := (h2 h5 h7 h8 h6 h9).own_give
  exact ⟨rfl, D', wv, g1, g2, g3⟩
theorem full_p (e : Ent) (hr : m.room ≤ m.es.length) (hs : Sat B D w (logP b m :: l)) :
    Calls Try.prog 12 #[.pointer (some ⟨b, 0, none⟩), .agg e.cells.toArray] w fun e' w' => e' = .returned (.int .i64 62) ∧ Sat B D w' (logP b m :: l) := by
  obtain ⟨S, h1, _⟩ := hs.log
  refine (push_full e h1 hr).mono ?_
  rintro e' w' ⟨rfl, _, hk⟩
  exact ⟨rfl, hs.kept hk⟩
theorem backno_p (n : Int) (hn : n < 1 ∨ 3 < n ∨ m.getS n = 0) (hs : Sat B D w (logP b m :: l)) :
    Calls Try.prog 10 #[.pointer (some ⟨b, 0, none⟩), .int .i64 n] w fun e w' => e = .returned (.tuple #[.slice none 0 0, .int .i64 70]) ∧ w' = w := by
  obtain ⟨S, h1, _⟩ := hs.log
  exact back_no n h1 hn
theorem back_p (n : Int) (at_ : Nat) (h60 : m.es.length ≤ 60) (hn : 1 ≤ n ∧ n ≤ 3) (h1 : m.getS n = at_ + 1) (hl : at_ ≤ m.es.length) (hs : Sat B D w (logP b m :: l)) :
    Calls Try.prog 10 #[.pointer (some ⟨b, 0, none⟩), .int .i64 n] w fun e w' => ∃ v D', e = .returned (.tuple #[v, .int .i64 0]) ∧ PH.le D D' ∧
      RdP D' 5 v (m.es.length - at_) ((m.es.drop at_).reverse.flatMap Ent.cells) ∧ Sat B D' w' (logP b (m.back (at_ + 1)) :: l) := by
  obtain ⟨S, h2, _, h3⟩ := hs.log
  have := back_yes n h60 h2 hn (by omega) (by omega)
  rw [h1, show ((at_ : Int) + 1 - 1).toNat = at_ by omega] at this
  refine this.mono ?_
  rintro e w' ⟨ao, cap, rfl, ⟨h6, h7⟩, h8, h9⟩
  obtain ⟨D', g1, g2, g3⟩ := (h3 h8 h9 (fun k hk => .inl hk) h6 h7).own_give
  exact ⟨_, D', rfl, g1, g2, g3⟩
theorem all_p (h60 : m.es.length ≤ 60) (hs : Sat B D w (logP b m :: l)) :
    Calls Try.prog 15 #[.pointer (some ⟨b, 0, none⟩)] w fun e w' => ∃ v D', e = .returned v ∧ PH.le D D' ∧
      RdP D' 5 v m.es.length (m.es.reverse.flatMap Ent.cells) ∧ Sat B D' w' (logP b (newM m.room) :: l) := by
  obtain ⟨S, h2, _, h3⟩ := hs.log
  refine (all_ok h60 h2).mono ?_
  rintro e w' ⟨ao, cap, S', rfl, ⟨h6, h7⟩, h8, h9, h10⟩
  obtain ⟨D', g1, g2, g3⟩ := (h3 h8 h9 h10 h6 h7).own_give
  exact ⟨_, D', rfl, g1, g2, g3⟩
theorem touched_p (hmet : m.met.length ≤ 1000) (hs : Sat B D w (logP b m :: l)) :
    Calls Try.prog 14 #[.pointer (some ⟨b, 0, none⟩)] w fun e w' => ∃ v D', e = .returned v ∧ PH.le D D' ∧
      RdP D' 5 v m.met.length ((m.met.map Spot.ent).flatMap Ent.cells) ∧ Sat B D' w' (logP b m :: l) := by
  obtain ⟨S, h2, _, h3⟩ := hs.log
  refine (touched_ok hmet h2).mono ?_
  rintro e w' ⟨ao, cap, rfl, ⟨h6, h7⟩, h8⟩
  obtain ⟨D', g1, g2, g3⟩ := (h3 (h2.frame h8 (fun _ _ h => h)) (h8.mono (fun _ _ h => h.elim)) (fun k hk => .inl hk) h6 h7).own_give
  exact ⟨_, D', rfl, g1, g2, g3⟩
end
end Go.Proofs.Ytokcpmeoiblpfaa
