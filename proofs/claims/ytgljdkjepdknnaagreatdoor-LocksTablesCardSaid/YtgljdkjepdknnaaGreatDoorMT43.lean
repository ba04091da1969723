/- Joined texts: Never more than there is room for: an act as data; what the law counts. For each reason somebody holds the claim, or waits for it: what each step does to that. Locks and the document's: the same queue, reasons that tell the same, the same answers, step by step. What is held stays covered; nothing that is held is in conflict; who waits is blocked: what each step keeps. -/
import Derived.Test.YtgljdkjepdknnaaGreatDoorMT42
import Derived.Test.YtgljdkjepdknnaaGreatDoorMT21
namespace Go.Proofs.YtgljdkjepdknnaaGreatDoor
open Go.ChangeShapes Go.WideShapes Go.ChangeAt Go.RowKit
set_option linter.unusedSimpArgs false
end Go.Proofs.YtgljdkjepdknnaaGreatDoor
namespace Go.Proofs.YtgljdkjepdknnaaGreatDoor
set_option linter.unusedSimpArgs false
theorem cn {l : List (Ent Clm)} {o : Int} {c : Clm} : (cB RC l o c).isSome = true ↔ ∃ e ∈ l, e.o = o ∧ RC.same e.c c = true := by
 unfold cB
 rw [List.findIdx?_isSome, List.any_eq_true]
 refine exists_congr fun e => and_congr_right fun _ => ?_
 unfold cw
 rw [Bool.and_eq_true, decide_eq_true_eq]
def HW (q : Qm Clm) (o : Int) (c : Clm) : Prop := (cB RC q.held o c).isSome = true ∨ (cB RC q.waits o c).isSome = true
theorem mw {l : List (Ent Clm)} (e : Ent Clm) {o : Int} {c : Clm} (h : (cB RC l o c).isSome = true) : (cB RC (bX RC l e) o c).isSome = true := by
 cases hg : (cB RC (bX RC l e) o c).isSome
 ·have := qx e o c (by cases hk : cB RC (bX RC l e) o c <;> simp_all)
  cases hk : cB RC l o c <;> simp_all
 ·rfl
theorem jI (l : List (Ent Clm)) (e : Ent Clm) : e.less ∈ bX RC l e := by
 unfold bX
 split
 ·rename_i k hk
  obtain ⟨y, hy, _, _, hlt⟩ := dx hk
  exact List.mem_iff_getElem.2 ⟨k, by simpa using hlt, by simp⟩
 ·exact List.mem_append.2 (.inr (by simp))
theorem hw_give {q : Qm Clm} {i : Nat} {e : Ent Clm} (he : q.waits[i]? = some e) {o : Int} {c : Clm} (h : HW q o c) : HW (ci RC ⟨q.held, q.waits.eraseIdx i⟩ e) o c := by
 rcases h with h | h
 ·exact .inl (mw e h)
 ·obtain ⟨x, hx, hxo, hxs⟩ := cn.1 h
  obtain ⟨j, hj, rfl⟩ := List.mem_iff_getElem.1 hx
  by_cases hji : j = i
  ·subst hji
   rw [List.getElem?_eq_getElem hj] at he
   obtain rfl := Option.some.inj he
   exact .inl (cn.2 ⟨_, jI _ _, hxo, hxs⟩)
  ·refine .inr (cn.2 ⟨q.waits[j], ?_, hxo, hxs⟩)
   show q.waits[j] ∈ q.waits.eraseIdx i
   exact List.mem_eraseIdx_iff_getElem.2 ⟨j, hj, hji, rfl⟩
theorem mC {q : Qm Clm} {o : Int} {c : Clm} (h : HW q o c) : HW (bJ RC q).1 o c := dN (P := fun q => HW q o c) (fun _ _ _ h _ he => hw_give he h) _ _ h
theorem mX {q : Qm Clm} {o p : Int} {c : Clm} (h : HW q o c) (hn : o ≠ p ∨ (cB RC q.held o c).isSome = true) : HW (bj RC q p).1 o c := by
 refine mC ?_
 rcases h with h | h
 ·exact .inl h
 ·rcases hn with hn | hn
  ·obtain ⟨x, hx, hxo, hxs⟩ := cn.1 h
   exact .inr (cn.2 ⟨x, List.mem_filter.2 ⟨hx, by unfold ofE; simp [hxo, hn]⟩, hxo, hxs⟩)
  ·exact .inl hn
theorem lM {q : Qm Clm} {g : Ent Clm → Bool} {o : Int} {c : Clm} (h : HW q o c) (hg : ∀ e ∈ q.held, e.o = o → RC.same e.c c = true → g e = false) : HW (a8 RC q g).1 o c := by
 refine mC ?_
 rcases h with h | h
 ·obtain ⟨x, hx, hxo, hxs⟩ := cn.1 h
  exact .inl (cn.2 ⟨x, List.mem_filter.2 ⟨hx, by simp [hg x hx hxo hxs]⟩, hxo, hxs⟩)
 ·exact .inr h
theorem hw_ask {q : Qm Clm} {o : Int} {c : Clm} (h : HW q o c) (p : Int) (d : Clm) (b : Bool) : HW (aV RC q p d b).1 o c := by
 unfold aV
 split
 ·exact h
 ·split
  ·exact h
  ·split
   ·rcases h with h | h
    ·exact .inl (mw _ h)
    ·exact .inr h
   ·split
    ·rcases h with h | h
     ·exact .inl h
     ·obtain ⟨x, hx, hxo, hxs⟩ := cn.1 h
      rename_i e i he _ _
      refine .inr (cn.2 ⟨x, ?_, hxo, hxs⟩)
      show x ∈ q.waits.take i ++ [e] ++ q.waits.drop i
      rw [← List.take_append_drop i q.waits] at hx
      rcases List.mem_append.1 hx with hx | hx
      ·exact List.mem_append.2 (.inl (List.mem_append.2 (.inl hx)))
      ·exact List.mem_append.2 (.inr hx)
    ·exact h
theorem sn {q : Qm Clm} {o : Int} {c : Clm} {b : Bool} (hs : RC.same c c = true) (hw : (b8 q.waits o).isSome = false) (hb : b = true ∨ (aV RC q o c b).2 = true) : HW (aV RC q o c b).1 o c := by
 unfold aV at hb ⊢
 rw [hw] at hb ⊢
 simp only [Bool.false_eq_true, if_false] at hb ⊢
 split
 ·rename_i ha
  unfold cL at ha
  split at ha
  ·cases ha
  ·rename_i k hk
   exact .inl (by rw [hk]; rfl)
 ·rename_i e i he
  rw [he] at hb
  obtain ⟨ho, _, hm⟩ := ew he
  have hse : RC.same e.c c = true := by
   rcases hm with ⟨_, _, hc, _⟩ | ⟨_, _, k, x, hk, hx, _, hc⟩
   ·rw [hc]; exact hs
   ·obtain ⟨y, hy, _, hys, _⟩ := dx hk
    rw [hx] at hy
    obtain rfl := Option.some.inj hy
    rw [hc, cS, show RC.same c (RC.join x.c c) = RC.same c c from ik _ _ _ hys]
    exact hs
  dsimp only at hb ⊢
  split
  ·exact .inl (cn.2 ⟨e.less, jI _ _, ho, hse⟩)
  ·rename_i hf
   rw [if_neg hf] at hb
   split
   ·refine .inr (cn.2 ⟨e, ?_, ho, hse⟩)
    show e ∈ q.waits.take i ++ [e] ++ q.waits.drop i
    simp
   ·rename_i hb2
    rw [if_neg hb2] at hb
    rcases hb with hb | hb
    ·exact absurd hb hb2
    ·cases hb
theorem rx {l : List Rsn} {o : Int} {c : Clm} {w : Int} {r : Rsn} (h : r ∈ cV l o c w) : (∃ r0 ∈ l, r0.o = r.o ∧ r0.c = r.c) ∨ (r.o = o ∧ r.c = c) := by
 unfold cV at h
 split at h
 ·split at h
  ·rename_i r0 hr0
   rcases List.mem_or_eq_of_mem_set h with h | rfl
   ·exact .inl ⟨r, h, rfl, rfl⟩
   ·exact .inl ⟨r0, List.mem_of_getElem? hr0, rfl, rfl⟩
  ·exact .inl ⟨r, h, rfl, rfl⟩
 ·rcases List.mem_append.1 h with h | h
  ·exact .inl ⟨r, h, rfl, rfl⟩
  ·rw [List.mem_singleton.1 h]
   exact .inr ⟨rfl, rfl⟩
def dV (m : LkM) : Prop := ∀ r ∈ m.why, HW m.q r.o r.c
theorem lC {m : LkM} (h : dV m) (o w : Int) : dV (di m o w).1 := by
 intro r hr
 have hr' : r ∈ dA m.why o w := hr
 obtain ⟨hm, _⟩ := List.mem_filter.1 hr'
 obtain ⟨r0, hr0, hl⟩ := List.mem_map.1 hm
 have h1 : r0.o = r.o ∧ r0.c = r.c := by
  rw [← hl]
  unfold eZ
  split <;> exact ⟨rfl, rfl⟩
 have h2 := h r0 hr0
 rw [h1.1, h1.2] at h2
 show HW (a8 RC m.q _).1 r.o r.c
 refine lM h2 (fun e he heo hes => ?_)
 unfold bT
 by_cases ho : e.o = o
 ·simp only [ho, decide_true, Bool.true_and]
  rw [List.any_eq_false]
  intro x hx hex
  have hp := (List.mem_filter.1 hx).2
  have hrx : RC.same r.c x = true := by rw [← dv hes]; exact hex
  unfold atR at hp
  rw [Option.isNone_iff_eq_none, List.findIdx?_eq_none_iff] at hp
  have := hp r hr'
  unfold ofR at this
  simp [heo.symm.trans ho, hrx] at this
 ·simp [ho]
theorem rF {m : LkM} (h : dV m) (o : Int) : dV (gM m o).1 := by
 intro r hr
 obtain ⟨hm, hz⟩ := List.mem_filter.1 (show r ∈ bD m.why o (fun _ => true) from hr)
 have hro : r.o ≠ o := by intro h; simp [h] at hz
 show HW (a8 RC (bj RC m.q o).1 (ofE o)).1 r.o r.c
 exact lM (mX (h r hm) (.inl hro)) (fun e _ heo _ => by unfold ofE; simp [heo, hro])
theorem oA {m : LkM} (hq : QOk m.q) (h : dV m) (o : Int) : dV (dS m o).1 := by
 intro r hr
 show HW (bj RC m.q o).1 r.o r.c
 have hr' : r ∈ (if (aS m.q o).2 && !fi m o (aS m.q o).1 then bD m.why o (fun d => RC.same d (aS m.q o).1) else m.why) := hr
 have hm : r ∈ m.why := by
  split at hr'
  ·exact (List.mem_filter.1 hr').1
  ·exact hr'
 refine mX (h r hm) ?_
 by_cases ho : r.o = o
 ·right
  rcases h r hm with h1 | h1
  ·exact h1
  ·obtain ⟨e, he, heo, hes⟩ := cn.1 h1
   have hw := rL hq he
   rw [heo, ho] at hw
   rw [hw] at hr'
   dsimp only at hr'
   split at hr'
   ·have hz := (List.mem_filter.1 hr').2
    have : RC.same r.c e.c = true := by rw [cS]; exact hes
    simp [ho, this] at hz
   ·rename_i hn
    have hh : fi m o e.c = true := by
     cases hh : fi m o e.c
     ·rw [hh] at hn; exact absurd rfl hn
     ·rfl
    rw [sP] at hh
    obtain ⟨x, hx, hxo, hxs⟩ := cn.1 hh
    refine cn.2 ⟨x, hx, hxo.trans ho.symm, ?_⟩
    rw [cS, ← dv hes, cS]
    exact hxs
 ·exact .inl ho
theorem mx {m : LkM} (h : dV m) {o : Int} {c : Clm} {b : Bool} (w : Int) (hs : RC.same c c = true) (hw : (b8 m.q.waits o).isSome = false) (hb : b = true ∨ (aV RC m.q o c b).2 = true) : dV ⟨(aV RC m.q o c b).1, cV m.why o c w⟩ := by
 intro r hr
 rcases rx (show r ∈ cV m.why o c w from hr) with ⟨r0, hr0, h1, h2⟩ | ⟨h1, h2⟩
 ·rw [← h1, ← h2]
  exact hw_ask (h r0 hr0) _ _ _
 ·rw [h1, h2]
  exact sn hs hw hb
theorem ef {table : Int} {a b : Clm} (h : RC.same a b = true) : bm table a = bm table b := by
 obtain ⟨h1, h2, _⟩ := cp.1 h
 unfold bm
 rw [h1, h2]
theorem ru {m : LkM} (h : dV m) (o table : Int) {rows : List Clm} (hrows : ∀ x ∈ rows, bm table x = true) : dV ⟨(a8 RC m.q (bT o rows)).1, bD m.why o (bm table)⟩ := by
 intro r hr
 obtain ⟨hm, hz⟩ := List.mem_filter.1 (show r ∈ bD m.why o (bm table) from hr)
 refine lM (h r hm) (fun e _ heo hes => ?_)
 unfold bT
 by_cases ho : e.o = o
 ·simp only [ho, decide_true, Bool.true_and]
  rw [List.any_eq_false]
  intro x hx hex
  have h1 : bm table r.c = true := by rw [← ef hes, ef hex]; exact hrows x hx
  simp [heo.symm.trans ho, h1] at hz
 ·simp [ho]
structure LkSame (ts : List (List Bool)) (room : Int) (m : LkM) (d : DocM) : Prop where
 t : d.ts = ts
 n : d.room = room
 q : d.q = m.q
 w : dU m.why
 r : eG d.r
 s : cG m.why d.r
 h : dV m
abbrev GoodR (dur hand : Int) : Prop := (dur = 1 ∧ hand = 0) ∨ (dur = 3 ∧ hand = 0) ∨ (dur = 2 ∧ (hand = 1 ∨ hand = 2))
theorem sr {dur hand : Int} (h : cj dur hand ≠ 0) : GoodR dur (if dur = 2 then hand else 0) ∧ cj dur (if dur = 2 then hand else 0) = cj dur hand := by
 unfold cj at h ⊢
 by_cases h1 : dur = 1
 ·subst h1; exact ⟨.inl ⟨rfl, rfl⟩, rfl⟩
 ·by_cases h3 : dur = 3
  ·subst h3; exact ⟨.inr (.inl ⟨rfl, rfl⟩), rfl⟩
  ·rw [if_neg h1, if_neg h3] at h
   have h2 : dur = 2 ∧ 1 ≤ hand ∧ hand ≤ 2 := by
    split at h
    ·assumption
    ·exact absurd rfl h
   rw [if_pos h2.1]
   exact ⟨.inr (.inr ⟨h2.1, by omega⟩), rfl⟩
theorem ms {ts : List (List Bool)} {c : Clm} (h : bK ts c = true) : RC.same c c = true := by
 unfold bK at h
 rw [Bool.and_eq_true] at h
 have hk := h.2
 unfold dC at hk
 refine cp.2 ⟨rfl, rfl, ?_⟩
 by_cases h1 : c.kind = 1
 ·exact .inl h1
 ·rw [if_neg h1] at hk
  by_cases h2 : c.kind = 2
  ·exact .inr (.inl ⟨h2, rfl⟩)
  ·rw [if_neg h2] at hk
   by_cases h3 : c.kind = 3
   ·exact .inr (.inr ⟨h3, rfl⟩)
   ·rw [if_neg h3] at hk; cases hk
section
variable {ts : List (List Bool)} {room : Int} {m : LkM} {d : DocM}
theorem lG (h : LkSame ts room m d) (o : Int) {dur hand : Int} (hd : GoodR dur hand) : LkSame ts room (di m o (cj dur hand)).1 (dX d o dur hand).1 ∧ (di m o (cj dur hand)).2 = (dX d o dur hand).2 := by
 have hw := over_ok h.w o (iO hd)
 have hr := sq h.r o dur hand
 have hs := mn h.s h.w h.r o hd
 have hp : (fun c => (atR (dA m.why o (cj dur hand)) o c).isNone) = (fun c => !cI (cT d.r o dur hand) o c) := funext fun c => lr hs hw hr o c
 have hq : a8 RC d.q (bT o ((aE d.q o).filter (fun c => !cI (cT d.r o dur hand) o c))) = a8 RC m.q (bT o ((aE m.q o).filter (fun c => (atR (dA m.why o (cj dur hand)) o c).isNone))) := by rw [h.q, hp]
 refine ⟨⟨h.t, h.n, ?_, hw, hr, hs, lC h.h o _⟩, ?_⟩
 ·show (a8 RC d.q _).1 = _
  rw [hq]; rfl
 ·show _ = (a8 RC d.q _).2
  rw [hq]; rfl
set_option maxRecDepth 100000 in
theorem pJ : ∀ a : Fin 16, bits .andNot .u8 (a.val : Int) 0 = (a.val : Int) := by decide
theorem iH {l : List Rsn} (h : dU l) (o : Int) : dA l o 0 = l := by
 unfold dA
 have hl : l.map (eZ o 0) = l := by
  conv => rhs; rw [← List.map_id l]
  refine List.map_congr_left (fun r hr => ?_)
  obtain ⟨h0, h1, _⟩ := h r hr
  obtain ⟨f, hf⟩ := j4 ⟨h0, h1⟩
  have := pJ f
  rw [hf] at this
  unfold eZ
  rw [this]
  split <;> rfl
 rw [hl]
 exact List.filter_eq_self.2 (fun r hr => by simpa using (h r hr).2.2)
theorem hI {l : List Rea} (h : eG l) (o : Int) : cT l o 0 0 = l := by
 unfold cT
 refine List.filter_eq_self.2 (fun x hx => ?_)
 have := h x hx
 have h0 : x.dur ≠ 0 := by omega
 simp [h0]
theorem pW (h : LkSame ts room m d) (o hand : Int) : LkSame ts room (di m o (cj 2 hand)).1 (fH d o hand).1 ∧ (di m o (cj 2 hand)).2 = (fH d o hand).2 := by
 unfold fH
 split
 ·rename_i hh
  exact lG h o (.inr (.inr ⟨rfl, by omega⟩))
 ·rename_i hh
  have hb : cj 2 hand = 0 := ph (by omega)
  rw [hb]
  have hp : (fun c => (atR (dA m.why o 0) o c).isNone) = (fun c => !cI (cT d.r o 0 0) o c) := funext fun c => by rw [iH h.w, hI h.r]; exact lr h.s h.w h.r o c
  have hq : a8 RC d.q (bT o ((aE d.q o).filter (fun c => !cI (cT d.r o 0 0) o c))) = a8 RC m.q (bT o ((aE m.q o).filter (fun c => (atR (dA m.why o 0) o c).isNone))) := by rw [h.q, hp]
  refine ⟨⟨h.t, h.n, ?_, ?_, ?_, ?_, lC h.h o 0⟩, ?_⟩
  ·show (a8 RC d.q _).1 = _
   rw [hq]; rfl
  ·show dU (dA m.why o 0)
   rw [iH h.w]; exact h.w
  ·show eG (cT d.r o 0 0)
   rw [hI h.r]; exact h.r
  ·show cG (dA m.why o 0) (cT d.r o 0 0)
   rw [iH h.w, hI h.r]; exact h.s
  ·show _ = (a8 RC d.q _).2
   rw [hq]; rfl
theorem re (h : LkSame ts room m d) (o : Int) : LkSame ts room (gM m o).1 (iq d o).1 ∧ (gM m o).2 = (iq d o).2 :=
 ⟨⟨h.t, h.n, by show (a8 RC (bj RC d.q o).1 (ofE o)).1 = _; rw [h.q]; rfl, (show dU (bD m.why o (fun _ => true)) from gG h.w o _), (show eG (kY d.r o) from endE_ok h.r o), (show cG (bD m.why o (fun _ => true)) (kY d.r o) from mS h.s o), rF h.h o⟩, by unfold gM iq; rw [h.q]⟩
theorem nC (hq : QOk m.q) (h : LkSame ts room m d) (o : Int) : LkSame ts room (dS m o).1 (dZ d o).1 ∧ (dS m o).2 = (dZ d o).2 := by
 refine ⟨⟨h.t, h.n, by show (bj RC d.q o).1 = _; rw [h.q]; rfl, ?_, ?_, ?_, oA hq h.h o⟩, by unfold dS dZ; rw [h.q]⟩
 ·show dU (if (aS m.q o).2 && !fi m o (aS m.q o).1 then bD m.why o (fun d => RC.same d (aS m.q o).1) else m.why)
  split
  ·exact gG h.w o _
  ·exact h.w
 ·show eG (if (aS d.q o).2 && !(aE d.q o).any (fun h => RC.same h (aS d.q o).1) then bw d.r o (aS d.q o).1 else d.r)
  split
  ·exact jq h.r o _
  ·exact h.r
 ·show cG (if (aS m.q o).2 && !fi m o (aS m.q o).1 then bD m.why o (fun d => RC.same d (aS m.q o).1) else m.why) (if (aS d.q o).2 && !(aE d.q o).any (fun h => RC.same h (aS d.q o).1) then bw d.r o (aS d.q o).1 else d.r)
  rw [h.q]
  show cG _ (if (aS m.q o).2 && !fi m o (aS m.q o).1 then bw d.r o (aS m.q o).1 else d.r)
  split
  ·exact jO h.s o _
  ·exact h.s
theorem sx (h : LkSame ts room m d) (o : Int) (c : Clm) (dur hand : Int) : LkSame ts room (dO m room (bK ts c) o c dur hand).1 (f8 d o c dur hand).1 ∧ (dO m room (bK ts c) o c dur hand).2 = (f8 d o c dur hand).2 := by
 unfold dO f8
 rw [h.t]
 split
 ·exact ⟨h, rfl⟩
 ·rename_i h1
  rw [h.q]
  split
  ·exact ⟨h, rfl⟩
  ·rename_i h2
   have hl : f9 d = m.q.held.length + m.q.waits.length := by unfold f9; rw [h.q]
   rw [hl, h.n]
   show LkSame ts room (if !fi m o c && _ then _ else _ : LkM × Bool × Int).1 (if !fi m o c && _ then _ else _ : DocM × Bool × Int).1 ∧ (if !fi m o c && _ then _ else _ : LkM × Bool × Int).2 = (if !fi m o c && _ then _ else _ : DocM × Bool × Int).2
   split
   ·exact ⟨h, rfl⟩
   ·rw [Bool.or_eq_true, decide_eq_true_eq, Bool.not_eq_true'] at h1
    have hm : bK ts c = true := by cases hm : bK ts c; exact absurd (.inl hm) h1; rfl
    have hb : cj dur hand ≠ 0 := fun hb => h1 (.inr hb)
    obtain ⟨g1, g2⟩ := sr hb
    have hx := lQ h.s h.w ⟨o, c, dur, if dur = 2 then hand else 0⟩ g1
    dsimp only at hx
    rw [g2] at hx
    have hin := iO g1
    rw [g2] at hin
    refine ⟨⟨rfl, rfl, rfl, l3 h.w o c hin, ?_, hx, ?_⟩, rfl⟩
    ·intro x hx
     rcases List.mem_append.1 hx with hx | hx
     ·exact h.r x hx
     ·rw [List.mem_singleton.1 hx]; exact g1
    ·refine mx h.h _ (ms hm) ?_ (.inl rfl)
     rw [fL] at h2
     simpa using h2
noncomputable def gC (d : DocM) (o table many : Int) : DocM × Bool :=
 if (aR d.q o table).length = 0 ∨ ((aR d.q o table).length : Int) ≤ many ∨ (aV RC d.q o (cM table (aR d.q o table)) false).2 = false then (d, false) else
 (⟨d.ts, d.room, (a8 RC (aV RC d.q o (cM table (aR d.q o table)) false).1 (bT o (aR d.q o table))).1, (aR d.q o table).foldl (fun m c => bw m o c) d.r ++ [⟨o, cM table (aR d.q o table), 3, 0⟩]⟩, true)
theorem nz (table : Int) (rows : List Clm) : RC.same (cM table rows) (cM table rows) = true := cp.2 ⟨rfl, rfl, .inl rfl⟩
theorem i8 (o : Int) : ∀ (rows : List Clm) {l : List Rea}, eG l → eG (rows.foldl (fun m c => bw m o c) l)
 | [], _, h => h
 | c :: rows, _, h => i8 o rows (jq h o c)
theorem m9 {q : Qm Clm} {o table : Int} : ∀ x ∈ aR q o table, bm table x = true := fun _ hx => (List.mem_filter.1 hx).2
theorem sF (h : LkSame ts room m d) (o table many : Int) : LkSame ts room (dG m o table many).1 (gC d o table many).1 ∧ (dG m o table many).2 = (gC d o table many).2 := by
 unfold gC
 rw [h.q]
 by_cases h0 : (aR m.q o table).length = 0 ∨ ((aR m.q o table).length : Int) ≤ many ∨ (aV RC m.q o (cM table (aR m.q o table)) false).2 = false
 ·rw [if_pos h0]
  unfold dG
  rw [if_pos h0]
  exact ⟨h, rfl⟩
 ·rw [if_neg h0]
  have h1 : (aR m.q o table).length ≠ 0 := fun h => h0 (.inl h)
  have h2 : many < ((aR m.q o table).length : Int) := by
   by_cases h2 : ((aR m.q o table).length : Int) ≤ many
   ·exact absurd (.inr (.inl h2)) h0
   ·omega
  have h3 : (aV RC m.q o (cM table (aR m.q o table)) false).2 = true := by
   cases h3 : (aV RC m.q o (cM table (aR m.q o table)) false).2
   ·exact absurd (.inr (.inr h3)) h0
   ·rfl
  rw [np h1 h2 h3]
  clear h0
  have hnw : (b8 m.q.waits o).isSome = false := by
   cases hw : (b8 m.q.waits o).isSome
   ·rfl
   ·unfold aV at h3; rw [hw] at h3; simp at h3
  have hrows : ∀ x ∈ aR m.q o table, bm table x = true := m9
  generalize hR : aR m.q o table = R at *
  have hc : bm table (cM table R) = false := by unfold bm cM; simp
  have hcs := nz table R
  generalize cM table R = c at *
  have hn := mx h.h (c := c) (b := false) 8 hcs hnw (.inr h3)
  have hwn : dU (cV m.why o c 8) := l3 h.w o c (by decide)
  have hper : ∀ (l : List Rsn), ∀ r ∈ l, ∀ c : Clm, RC.same r.c c = true → bm table r.c = bm table c := fun _ _ _ _ hs => ef hs
  have hsw : cG (bD m.why o (bm table)) (R.foldl (fun m d => bw m o d) d.r) := by
   refine mh h.s o (bm table) (hper _) R (fun x hx ⟨b, _, r, hr, hro, hrs, _⟩ => ?_) hrows
   rcases h.h r hr with h4 | h4
   ·obtain ⟨e, he, heo, hes⟩ := cn.1 h4
    refine ⟨e.c, ?_, ?_⟩
    ·rw [← hR]
     refine List.mem_filter.2 ⟨List.mem_map.2 ⟨e, List.mem_filter.2 ⟨he, by unfold ofE; simp [heo, hro]⟩, rfl⟩, ?_⟩
     rw [ef hes, ef hrs]; exact hx
    ·rw [cS, dv hes]; exact hrs
   ·obtain ⟨e, he, heo, _⟩ := cn.1 h4
    exact absurd (heo.trans hro) (fc hnw e he)
  refine ⟨⟨h.t, h.n, rfl, gG hwn o _, ?_, ?_, ?_⟩, rfl⟩
  ·intro x hx
   rcases List.mem_append.1 hx with hx | hx
   ·exact i8 o R h.r x hx
   ·rw [List.mem_singleton.1 hx]; exact .inr (.inl ⟨rfl, rfl⟩)
  ·intro o' c' b hb
   have e1 := eS (cV m.why o c 8) o (bm table) o' c' b (fun r hr hs => hper _ r hr c' hs)
   have e2 := nu h.w o c (w := 8) (by decide) o' c' hb
   have e3 := eS m.why o (bm table) o' c' b (fun r hr hs => hper _ r hr c' hs)
   have e4 := hsw o' c' b hb
   have e5 := k9 (R.foldl (fun m d => bw m o d) d.r) ⟨o, c, 3, 0⟩ o' c' b
   refine e1.trans (Iff.trans ?_ e5.symm)
   rw [e2, ← e4, e3]
   constructor
   ·rintro ⟨h5 | ⟨h5, h6, h7⟩, h8⟩
    ·exact .inl ⟨h5, h8⟩
    ·exact .inr ⟨h5, h6, h7⟩
   ·rintro (⟨h5, h6⟩ | ⟨h5, h6, h7⟩)
    ·exact ⟨.inl h5, h6⟩
    ·refine ⟨.inr ⟨h5, h6, h7⟩, fun h8 => ?_⟩
     rw [← ef h6, hc] at h8
     exact absurd h8.2 (by simp)
  ·exact ru (m := ⟨(aV RC m.q o c false).1, cV m.why o c 8⟩) hn o table hrows
noncomputable def fX (ts : List (List Bool)) (room : Int) (m : LkM) (d : DocM) (k o : Int) (c : Clm) (dur hand table many : Int) : LkM × DocM × Bool :=
 if k = 15 then ((dG m o table many).1, (gC d o table many).1, decide ((dG m o table many).2 = (gC d o table many).2)) else d7 ts room m d k o c dur hand
theorem qp (hq : QOk m.q) (h : LkSame ts room m d) (k o : Int) (c : Clm) (dur hand table many : Int) :
  LkSame ts room (fX ts room m d k o c dur hand table many).1 (fX ts room m d k o c dur hand table many).2.1 ∧ (fX ts room m d k o c dur hand table many).2.2 = true := by
 unfold fX d7
 split
 ·obtain ⟨h1, h2⟩ := sF h o table many
  exact ⟨h1, by simp [h2]⟩
 split
 ·obtain ⟨h1, h2⟩ := lG h o (dur := 1) (hand := 0) (.inl ⟨rfl, rfl⟩)
  rw [show cj 1 0 = 1 from rfl] at h1 h2
  exact ⟨h1, by simp [h2]⟩
 split
 ·obtain ⟨h1, h2⟩ := pW h o hand
  exact ⟨h1, by simp [h2]⟩
 split
 ·obtain ⟨h1, h2⟩ := re h o
  exact ⟨h1, by simp [h2]⟩
 split
 ·obtain ⟨h1, h2⟩ := nC hq h o
  exact ⟨h1, by simp [h2]⟩
 ·obtain ⟨h1, h2⟩ := sx h o c dur hand
  exact ⟨h1, by simp [h2]⟩
end
def gB (c : Clm) : Prop := RC.same c c = true ∧ br c.mode = true
theorem ni {a : Int} (h : br a = true) : aN a a = true := by rcases bB h with rfl | rfl | rfl | rfl | rfl | rfl | rfl <;> decide
theorem nq {a b : Int} (ha : br a = true) (hb : br b = true) : br (dl a b) = true ∧ aN (dl a b) a = true ∧ aN (dl a b) b = true := by
 rcases bB ha with rfl | rfl | rfl | rfl | rfl | rfl | rfl <;> rcases bB hb with rfl | rfl | rfl | rfl | rfl | rfl | rfl <;> decide
theorem lZ {a b c : Int} (h1 : aN a b = true) (h2 : aN b c = true) : aN a c = true := by
 unfold aN at *
 simp only [Bool.and_eq_true, List.all_eq_true, Bool.or_eq_true, Bool.not_eq_true'] at *
 refine ⟨⟨h1.1.1, h2.1.2⟩, fun i hi => ?_⟩
 rcases h1.2 i hi with h | h
 ·exact .inl h
 ·rcases h2.2 i hi with h' | h'
  ·rw [h] at h'; cases h'
  ·exact .inr h'
theorem lE {l : List (List Val)} {r : List Val} : cY l r = true ↔ r ∈ l := by
 unfold cY
 rw [List.any_eq_true]
 constructor
 ·rintro ⟨x, hx, h⟩
  rw [decide_eq_true_eq] at h
  rw [← h]; exact hx
 ·exact fun h => ⟨r, h, by simp⟩
theorem ml {m : List (List Val)} : ∀ {l : List (List Val)} {r : List Val}, r ∈ m → r ∈ bL l m := by
 unfold bL
 induction m with
 | nil => intro l r h; cases h
 | cons x m ih =>
  intro l r h
  show r ∈ m.foldl _ (if cY l x then l else l ++ [x])
  rcases List.mem_cons.1 h with rfl | h
  ·have h0 : r ∈ (if cY l r then l else l ++ [r]) := by
    split
    ·rename_i hi; exact lE.1 hi
    ·simp
   exact gD (m := m) h0
  ·exact ih h
theorem fd {a b : Clm} : RC.cov a b = true ↔ RC.same a b = true ∧ aN a.mode b.mode = true ∧ ∀ r ∈ b.imgs, r ∈ a.imgs := by
 show oI a b = true ↔ _
 unfold oI
 rw [Bool.and_eq_true, Bool.and_eq_true, List.all_eq_true, and_assoc]
 exact and_congr_right fun _ => and_congr_right fun _ => forall_congr' fun r => forall_congr' fun _ => lE
theorem fw {c : Clm} (h : gB c) : RC.cov c c = true := fd.2 ⟨h.1, ni h.2, fun _ h => h⟩
theorem qo {a b c : Clm} (h1 : RC.cov a b = true) (h2 : RC.cov b c = true) : RC.cov a c = true := by
 obtain ⟨a1, a2, a3⟩ := fd.1 h1
 obtain ⟨b1, b2, b3⟩ := fd.1 h2
 exact fd.2 ⟨by rw [dv a1]; exact b1, lZ a2 b2, fun r hr => a3 r (b3 r hr)⟩
theorem gF {h c : Clm} (hs : RC.same h c = true) : RC.join h c = { h with mode := dl h.mode c.mode, imgs := bL h.imgs c.imgs } := by
 show dp h c = _
 unfold dp
 rw [if_pos (show cz h c = true from hs)]
theorem eP {h c : Clm} (hs : RC.same h c = true) (y : Clm) : RC.same (RC.join h c) y = RC.same h y := by
 rw [gF hs]; rfl
theorem rG {h c : Clm} (hs : RC.same h c = true) (hh : gB h) (hc : gB c) : gB (RC.join h c) ∧ RC.cov (RC.join h c) h = true ∧ RC.cov (RC.join h c) c = true := by
 obtain ⟨m1, m2, m3⟩ := nq hh.2 hc.2
 refine ⟨⟨?_, ?_⟩, fd.2 ⟨?_, ?_, ?_⟩, fd.2 ⟨?_, ?_, ?_⟩⟩
 ·rw [eP hs, cS, eP hs]; exact hh.1
 ·rw [gF hs]; exact m1
 ·rw [eP hs]; exact hh.1
 ·rw [gF hs]; exact m2
 ·rw [gF hs]; exact fun r hr => gD hr
 ·rw [eP hs]; exact hs
 ·rw [gF hs]; exact m3
 ·rw [gF hs]; exact fun r hr => ml hr
theorem sI {ts : List (List Bool)} {c : Clm} (h : bK ts c = true) : gB c := by
 refine ⟨ms h, ?_⟩
 unfold bK at h
 rw [Bool.and_eq_true] at h
 have hk := h.2
 unfold dC at hk
 split at hk
 ·rw [Bool.and_eq_true] at hk; exact hk.1
 ·split at hk
  ·unfold cm at hk
   rw [Bool.and_eq_true] at hk
   have h2 := hk.2
   split at h2
   ·rename_i h3
    rcases h3 with h3 | h3 <;> rw [h3] <;> decide
   ·split at h2
    ·rename_i h3; rw [h3]; decide
    ·cases h2
  ·split at hk
   ·rw [Bool.and_eq_true, decide_eq_true_eq] at hk
    rw [hk.1]; decide
   ·cases hk
theorem ir (table : Int) (rows : List Clm) : gB (cM table rows) := ⟨nz table rows, by unfold cM; dsimp only; split <;> decide⟩
theorem RC_okM : RulOk RC (fun c => br c.mode = true) := ⟨eX, fun h c y hs => ik h c y hs, fun h c y m1 m2 hs hy => by
 show fQ (dp h c) y = true
 have hy : fQ h y = true := hy
 unfold dp
 rw [if_pos (show cz h c = true from hs)]
 unfold fQ at hy ⊢
 rw [Bool.and_eq_true] at hy ⊢
 refine ⟨hy.1, ?_⟩
 have hy2 := hy.2
 dsimp only
 split
 ·rename_i hk
  rw [if_pos hk] at hy2
  simp only [Bool.not_eq_true'] at hy2 ⊢
  exact lK m1 m2 hy2
 ·rename_i hk
  rw [if_neg hk] at hy2
  split
  ·rename_i hk
   rw [if_pos hk] at hy2
   simp only [Bool.and_eq_true, Bool.not_eq_true'] at hy2 ⊢
   exact ⟨hy2.1, lK m1 m2 hy2.2⟩
  ·rename_i hk
   rw [if_neg hk] at hy2
   split
   ·rename_i hk
    rw [if_pos hk] at hy2
    exact hy2
   ·rename_i hk
    rw [if_neg hk] at hy2
    split
    ·rename_i hk
     rw [if_pos hk] at hy2
     unfold bO at hy2 ⊢
     rw [Bool.and_eq_true, decide_eq_true_eq] at hy2 ⊢
     refine ⟨joinM_x hy2.1 m2, ?_⟩
     obtain ⟨r, hr, h3⟩ := List.any_eq_true.1 hy2.2
     exact List.any_eq_true.2 ⟨r, gD hr, h3⟩
    ·rename_i hk
     rw [if_neg hk] at hy2
     exact hy2⟩
def Covd (l l' : List (Ent Clm)) (o : Int) : Prop := ∀ e ∈ l, e.o = o → ∃ e' ∈ l', e'.o = o ∧ RC.cov e'.c e.c = true
theorem Covd.trans {l l' l2 : List (Ent Clm)} {o : Int} (h : Covd l l' o) (h2 : Covd l' l2 o) : Covd l l2 o := fun e he ho => by
 obtain ⟨e', he', ho', hc⟩ := h e he ho
 obtain ⟨e2, he2, ho2, hc2⟩ := h2 e' he' ho'
 exact ⟨e2, he2, ho2, qo hc2 hc⟩
structure Keep (q : Qm Clm) : Prop where
 ok : QOk q
 once : mM q.held
 sane : AllE (fun _ => gB) q
 wc : ∀ e ∈ q.waits, ∀ x ∈ q.held, x.o = e.o → RC.same x.c e.c = true → RC.cov e.c x.c = true
theorem sk {l : List (Ent Clm)} (e : Ent Clm) {x : Ent Clm} (hx : x ∈ l) : x ∈ bX RC l e ∨ (x.o = e.o ∧ RC.same x.c e.c = true) := by
 unfold bX
 split
 ·rename_i k hk
  obtain ⟨y, hy, hyo, hys, hlt⟩ := dx hk
  obtain ⟨_, rfl⟩ := List.getElem?_eq_some_iff.1 hy
  obtain ⟨i, hi, rfl⟩ := List.mem_iff_getElem.1 hx
  by_cases hik : i = k
  ·subst hik; exact .inr ⟨hyo, hys⟩
  ·exact .inl (List.mem_iff_getElem.2 ⟨i, by simpa using hi, by rw [List.getElem_set_ne (Ne.symm hik)]⟩)
 ·exact .inl (List.mem_append.2 (.inl hx))
theorem k7 {q : Qm Clm} {ws : List (Ent Clm)} {e : Ent Clm} (K : Keep q) (hs : ws.Sublist q.waits) (he : gB e.c) (hcov : ∀ x ∈ q.held, x.o = e.o → RC.same x.c e.c = true → RC.cov e.c x.c = true) (hne : ∀ w ∈ ws, w.o ≠ e.o) :
  Keep ⟨bX RC q.held e, ws⟩ ∧ ∀ o, Covd q.held (bX RC q.held e) o := by
 refine ⟨⟨QOk.sub K.ok hs, oB K.once e, ⟨fun x hx => ?_, fun w hw => K.sane.2 w (hs.subset hw)⟩, fun w hw x hx hxo hxs => ?_⟩, fun o x hx hxo => ?_⟩
 ·rcases fC hx with h | rfl
  ·exact K.sane.1 x h
  ·exact he
 ·rcases fC hx with h | rfl
  ·exact K.wc w (hs.subset hw) x h hxo hxs
  ·exact absurd hxo.symm (hne w hw)
 ·rcases sk e hx with h | ⟨h1, h2⟩
  ·exact ⟨x, h, hxo, fw (K.sane.1 x hx)⟩
  ·exact ⟨e.less, jI _ _, h1.symm.trans hxo, hcov x hx h1 h2⟩
theorem kb {q : Qm Clm} (K : Keep q) : Keep (bJ RC q).1 ∧ ∀ o, Covd q.held (bJ RC q).1.held o := by
 have h := dN (R := RC) (P := fun p => Keep p ∧ ∀ o, Covd q.held p.held o) (fun p i e h hf he => by
  obtain ⟨K, hc⟩ := h
  have hm : e ∈ p.waits := List.mem_of_getElem? he
  obtain ⟨h1, h2⟩ := k7 (ws := p.waits.eraseIdx i) (e := e) K (List.eraseIdx_sublist _ _) (K.sane.2 e hm) (K.wc e hm) (fun w hw hwo => by
   obtain ⟨j, hj, hji, rfl⟩ := List.mem_eraseIdx_iff_getElem.1 hw
   obtain ⟨hi, rfl⟩ := List.getElem?_eq_some_iff.1 he
   rcases Nat.lt_or_gt_of_ne hji with h | h
   ·exact List.pairwise_iff_getElem.1 K.ok.once j i hj hi h hwo
   ·exact List.pairwise_iff_getElem.1 K.ok.once i j hi hj h hwo.symm)
  exact ⟨h1, fun o => (hc o).trans (h2 o)⟩) q.waits.length q ⟨K, fun o e he ho => ⟨e, he, ho, fw (K.sane.1 e he)⟩⟩
 exact h
theorem Keep.sub {q : Qm Clm} (K : Keep q) {hs ws : List (Ent Clm)} (h1 : hs.Sublist q.held) (h2 : ws.Sublist q.waits) : Keep ⟨hs, ws⟩ :=
 ⟨QOk.sub K.ok h2, K.once.sublist h1, ⟨fun x hx => K.sane.1 x (h1.subset hx), fun x hx => K.sane.2 x (h2.subset hx)⟩, fun e he x hx => K.wc e (h2.subset he) x (h1.subset hx)⟩
theorem lx {q : Qm Clm} (K : Keep q) (g : Ent Clm → Bool) : Keep (a8 RC q g).1 ∧ ∀ o, (∀ e ∈ q.held, e.o = o → g e = false) → Covd q.held (a8 RC q g).1.held o := by
 obtain ⟨h1, h2⟩ := kb (K.sub (hs := q.held.filter (fun e => !g e)) (ws := q.waits) List.filter_sublist (List.Sublist.refl _))
 exact ⟨h1, fun o hg => Covd.trans (fun e he ho => ⟨e, List.mem_filter.2 ⟨he, by simp [hg e he ho]⟩, ho, fw (K.sane.1 e he)⟩) (h2 o)⟩
theorem of {q : Qm Clm} (K : Keep q) (o : Int) : Keep (bj RC q o).1 ∧ ∀ p, Covd q.held (bj RC q o).1.held p := kb (K.sub (List.Sublist.refl _) List.filter_sublist)
theorem once_eq {l : List (Ent Clm)} (h : mM l) {x y : Ent Clm} (hx : x ∈ l) (hy : y ∈ l) (ho : x.o = y.o) (hs : RC.same x.c y.c = true) : x = y := by
 obtain ⟨i, hi, rfl⟩ := List.mem_iff_getElem.1 hx
 obtain ⟨j, hj, rfl⟩ := List.mem_iff_getElem.1 hy
 rcases Nat.lt_trichotomy i j with h1 | h1 | h1
 ·exact absurd ⟨ho, hs⟩ (List.pairwise_iff_getElem.1 h i j hi hj h1)
 ·subst h1; rfl
 ·exact absurd ⟨ho.symm, by rw [cS]; exact hs⟩ (List.pairwise_iff_getElem.1 h j i hj hi h1)
theorem jM {q : Qm Clm} (K : Keep q) (o : Int) {c : Clm} (hc : gB c) (b : Bool) :
  Keep (aV RC q o c b).1 ∧ (∀ p, Covd q.held (aV RC q o c b).1.held p) ∧ ((aV RC q o c b).2 = true → (∀ w ∈ (aV RC q o c b).1.waits, w.o ≠ o) ∧ (aV RC q o c b).1.waits = q.waits ∧ ∃ x ∈ (aV RC q o c b).1.held, x.o = o ∧ RC.cov x.c c = true) := by
 have hok := sC (R := RC) K.ok o c b
 have hself : ∀ p, Covd q.held q.held p := fun p e he ho => ⟨e, he, ho, fw (K.sane.1 e he)⟩
 revert hok
 unfold aV
 cases hw : (b8 q.waits o).isSome
 ·simp only [Bool.false_eq_true, if_false]
  have hnw := fc hw
  cases ha : cL RC q o c with
  | none =>
   intro _
   refine ⟨K, hself, fun _ => ⟨hnw, rfl, ?_⟩⟩
   unfold cL at ha
   split at ha
   ·cases ha
   ·rename_i k hk
    obtain ⟨x, hx, hxo, hxs, _⟩ := dx hk
    rw [hx] at ha
    dsimp only at ha
    split at ha
    ·rename_i hcv; exact ⟨x, List.mem_of_getElem? hx, hxo, hcv⟩
    ·cases ha
  | some p =>
   obtain ⟨e, i⟩ := p
   obtain ⟨ho, _, hm⟩ := ew ha
   have hfact : gB e.c ∧ RC.cov e.c c = true ∧ ∀ x ∈ q.held, x.o = e.o → RC.same x.c e.c = true → RC.cov e.c x.c = true := by
    rcases hm with ⟨_, _, hec, hn⟩ | ⟨_, _, k, y, hk, hy, _, hec⟩
    ·rw [hec]
     refine ⟨hc, fw hc, fun x hx hxo hxs => ?_⟩
     have : (cB RC q.held o c).isSome = true := cn.2 ⟨x, hx, hxo.trans ho, hxs⟩
     rw [hn] at this; cases this
    ·obtain ⟨z, hz, hzo, hzs, _⟩ := dx hk
     rw [hy] at hz
     obtain rfl := Option.some.inj hz
     have hym := List.mem_of_getElem? hy
     obtain ⟨j1, j2, j3⟩ := rG hzs (K.sane.1 y hym) hc
     rw [hec]
     refine ⟨j1, j3, fun x hx hxo hxs => ?_⟩
     have hxy : RC.same x.c y.c = true := by rw [cS, ← eP hzs, cS]; exact hxs
     obtain rfl := once_eq K.once hx hym (hxo.trans (ho.trans hzo.symm)) hxy
     exact j2
   obtain ⟨f1, f2, f3⟩ := hfact
   dsimp only
   split
   ·intro _
    obtain ⟨k1, k2⟩ := k7 (ws := q.waits) (e := e) K (List.Sublist.refl _) f1 f3 (fun w hw => by rw [ho]; exact hnw w hw)
    exact ⟨k1, k2, fun _ => ⟨hnw, rfl, e.less, jI _ _, ho, f2⟩⟩
   ·split
    ·intro hok
     have hin : ∀ w ∈ q.waits.take i ++ [e] ++ q.waits.drop i, w ∈ q.waits ∨ w = e := fun w hw => by
      rcases List.mem_append.1 hw with hw | hw
      ·rcases List.mem_append.1 hw with hw | hw
       ·exact .inl (List.mem_of_mem_take hw)
       ·exact .inr (List.mem_singleton.1 hw)
      ·exact .inl (List.mem_of_mem_drop hw)
     refine ⟨⟨hok, K.once, ⟨K.sane.1, fun w hw => ?_⟩, fun w hw x hx => ?_⟩, hself, fun h => by cases h⟩
     ·rcases hin w hw with hw | rfl
      ·exact K.sane.2 w hw
      ·exact f1
     ·rcases hin w hw with hw | rfl
      ·exact K.wc w hw x hx
      ·exact f3 x hx
    ·exact fun _ => ⟨K, hself, fun h => by cases h⟩
 ·simp only [if_true]
  exact fun _ => ⟨K, hself, fun h => by cases h⟩
structure Sound (q : Qm Clm) : Prop extends Keep q where
 apart : Apart RC q.held
 stuck : li RC q
theorem Sound.modes {q : Qm Clm} (S : Sound q) : AllE (fun _ c => br c.mode = true) q := ⟨fun e he => (S.sane.1 e he).2, fun e he => (S.sane.2 e he).2⟩
theorem eQ {q : Qm Clm} (S : Sound q) (g : Ent Clm → Bool) : Sound (a8 RC q g).1 := ⟨(lx S.toKeep g).1, nG eX S.apart g, jo _⟩
theorem jb {q : Qm Clm} (S : Sound q) (o : Int) : Sound (bj RC q o).1 := ⟨(of S.toKeep o).1, nd eX S.apart o, jo _⟩
theorem iJ {q : Qm Clm} (S : Sound q) (o : Int) {c : Clm} (hc : gB c) (b : Bool) : Sound (aV RC q o c b).1 := ⟨(jM S.toKeep o hc b).1, qe eX S.apart o c b, pF RC_okM S.stuck S.modes o c b hc.2⟩
theorem pP : Sound ⟨[], []⟩ := ⟨⟨⟨List.Pairwise.nil, List.Pairwise.nil⟩, List.Pairwise.nil, ⟨fun e he => (by cases he), fun e he => (by cases he)⟩, fun e he => (by cases he)⟩, fun e he => (by cases he), fun i e he => (by simp at he)⟩
theorem oD {ts : List (List Bool)} {room : Int} {m : LkM} {d : DocM} (S : Sound m.q) (k o : Int) (c : Clm) (dur hand table many : Int) : Sound (fX ts room m d k o c dur hand table many).1.q := by
 unfold fX d7
 split
 ·show Sound (dG m o table many).1.q
  unfold dG
  split
  ·exact S
  ·exact eQ (iJ S o (ir _ _) false) _
 split
 ·exact eQ S _
 split
 ·exact eQ S _
 split
 ·exact eQ (jb S o) _
 split
 ·exact jb S o
 ·show Sound (dO m room (bK ts c) o c dur hand).1.q
  unfold dO
  split
  ·exact S
  split
  ·exact S
  split
  ·exact S
  ·rename_i h1 _ _
   have hm : bK ts c = true := by cases hm : bK ts c; rw [hm] at h1; simp at h1; rfl
   exact iJ S o (sI hm) true
end Go.Proofs.YtgljdkjepdknnaaGreatDoor
