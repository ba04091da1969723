/- Joined texts: Never more than there is room for: an act as data; what the law counts. For each reason somebody holds the claim, or waits for it: what each step does to that. Locks and the document's: the same queue, reasons that tell the same, the same answers, step by step. What is held stays covered; nothing that is held is in conflict; who waits is blocked: what each step keeps. -/
import Derived.Test.YtgljdkjepdknnaaGreatDoorML42
import Derived.Test.YtgljdkjepdknnaaGreatDoorML21
namespace Go.Proofs.YtgljdkjepdknnaaGreatDoor
open Go.ChangeShapes Go.WideShapes Go.ChangeAt Go.RowKit
set_option linter.unusedSimpArgs false
theorem rB (N : Nat) : ClmSm N tR := ⟨Nat.zero_le _, fun r hr => (by cases hr), .mk _ _ _ _ _ (Nat.zero_le _) (fun q hq => (by cases hq))⟩
theorem jh {n : Nat} {Q : Qm Clm} (h : ScOk n Q) (hn : n ≤ 1000) (o : Int) : ClmSm 1000000 (aP Q o).1 := by
 unfold aP
 split
 ·split
  ·rename_i he
   exact (h.all.2 _ (List.mem_of_getElem? he)).sm hn
  ·exact rB _
 ·exact rB _
end Go.Proofs.YtgljdkjepdknnaaGreatDoor
namespace Go.Proofs.YtgljdkjepdknnaaGreatDoor
set_option linter.unusedSimpArgs false
theorem cE {l : List (Ent Clm)} {o : Int} {c : Clm} : (cM RC l o c).isSome = true ↔ ∃ e ∈ l, e.o = o ∧ RC.same e.c c = true := by
 unfold cM
 rw [List.findIdx?_isSome, List.any_eq_true]
 refine exists_congr fun e => and_congr_right fun _ => ?_
 unfold cH
 rw [Bool.and_eq_true, decide_eq_true_eq]
def HW (q : Qm Clm) (o : Int) (c : Clm) : Prop := (cM RC q.held o c).isSome = true ∨ (cM RC q.waits o c).isSome = true
theorem nR {l : List (Ent Clm)} (e : Ent Clm) {o : Int} {c : Clm} (h : (cM RC l o c).isSome = true) : (cM RC (cy RC l e) o c).isSome = true := by
 cases hg : (cM RC (cy RC l e) o c).isSome
 ·have := sl e o c (by cases hk : cM RC (cy RC l e) o c <;> simp_all)
  cases hk : cM RC l o c <;> simp_all
 ·rfl
theorem kD (l : List (Ent Clm)) (e : Ent Clm) : e.less ∈ cy RC l e := by
 unfold cy
 split
 ·rename_i k hk
  obtain ⟨y, hy, _, _, hlt⟩ := eG hk
  exact List.mem_iff_getElem.2 ⟨k, by simpa using hlt, by simp⟩
 ·exact List.mem_append.2 (.inr (by simp))
theorem hw_give {q : Qm Clm} {i : Nat} {e : Ent Clm} (he : q.waits[i]? = some e) {o : Int} {c : Clm} (h : HW q o c) : HW (cP RC ⟨q.held, q.waits.eraseIdx i⟩ e) o c := by
 rcases h with h | h
 ·exact .inl (nR e h)
 ·obtain ⟨x, hx, hxo, hxs⟩ := cE.1 h
  obtain ⟨j, hj, rfl⟩ := List.mem_iff_getElem.1 hx
  by_cases hji : j = i
  ·subst hji
   rw [List.getElem?_eq_getElem hj] at he
   obtain rfl := Option.some.inj he
   exact .inl (cE.2 ⟨_, kD _ _, hxo, hxs⟩)
  ·refine .inr (cE.2 ⟨q.waits[j], ?_, hxo, hxs⟩)
   show q.waits[j] ∈ q.waits.eraseIdx i
   exact List.mem_eraseIdx_iff_getElem.2 ⟨j, hj, hji, rfl⟩
theorem oK {q : Qm Clm} {o : Int} {c : Clm} (h : HW q o c) : HW (bS RC q).1 o c := dv (P := fun q => HW q o c) (fun _ _ _ h _ he => hw_give he h) _ _ h
theorem of {q : Qm Clm} {o p : Int} {c : Clm} (h : HW q o c) (hn : o ≠ p ∨ (cM RC q.held o c).isSome = true) : HW (bu RC q p).1 o c := by
 refine oK ?_
 rcases h with h | h
 ·exact .inl h
 ·rcases hn with hn | hn
  ·obtain ⟨x, hx, hxo, hxs⟩ := cE.1 h
   exact .inr (cE.2 ⟨x, List.mem_filter.2 ⟨hx, by unfold ofE; simp [hxo, hn]⟩, hxo, hxs⟩)
  ·exact .inl hn
theorem nl {q : Qm Clm} {g : Ent Clm → Bool} {o : Int} {c : Clm} (h : HW q o c) (hg : ∀ e ∈ q.held, e.o = o → RC.same e.c c = true → g e = false) : HW (aY RC q g).1 o c := by
 refine oK ?_
 rcases h with h | h
 ·obtain ⟨x, hx, hxo, hxs⟩ := cE.1 h
  exact .inl (cE.2 ⟨x, List.mem_filter.2 ⟨hx, by simp [hg x hx hxo hxs]⟩, hxo, hxs⟩)
 ·exact .inr h
theorem hw_ask {q : Qm Clm} {o : Int} {c : Clm} (h : HW q o c) (p : Int) (d : Clm) (b : Bool) : HW (bj RC q p d b).1 o c := by
 unfold bj
 split
 ·exact h
 ·split
  ·exact h
  ·split
   ·rcases h with h | h
    ·exact .inl (nR _ h)
    ·exact .inr h
   ·split
    ·rcases h with h | h
     ·exact .inl h
     ·obtain ⟨x, hx, hxo, hxs⟩ := cE.1 h
      rename_i e i he _ _
      refine .inr (cE.2 ⟨x, ?_, hxo, hxs⟩)
      show x ∈ q.waits.take i ++ [e] ++ q.waits.drop i
      rw [← List.take_append_drop i q.waits] at hx
      rcases List.mem_append.1 hx with hx | hx
      ·exact List.mem_append.2 (.inl (List.mem_append.2 (.inl hx)))
      ·exact List.mem_append.2 (.inr hx)
    ·exact h
theorem tj {q : Qm Clm} {o : Int} {c : Clm} {b : Bool} (hs : RC.same c c = true) (hw : (bJ q.waits o).isSome = false) (hb : b = true ∨ (bj RC q o c b).2 = true) : HW (bj RC q o c b).1 o c := by
 unfold bj at hb ⊢
 rw [hw] at hb ⊢
 simp only [Bool.false_eq_true, if_false] at hb ⊢
 split
 ·rename_i ha
  unfold dj at ha
  split at ha
  ·cases ha
  ·rename_i k hk
   exact .inl (by rw [hk]; rfl)
 ·rename_i e i he
  rw [he] at hb
  obtain ⟨ho, _, hm⟩ := fx he
  have hse : RC.same e.c c = true := by
   rcases hm with ⟨_, _, hc, _⟩ | ⟨_, _, k, x, hk, hx, _, hc⟩
   ·rw [hc]; exact hs
   ·obtain ⟨y, hy, _, hys, _⟩ := eG hk
    rw [hx] at hy
    obtain rfl := Option.some.inj hy
    rw [hc, dd, show RC.same c (RC.join x.c c) = RC.same c c from je _ _ _ hys]
    exact hs
  dsimp only at hb ⊢
  split
  ·exact .inl (cE.2 ⟨e.less, kD _ _, ho, hse⟩)
  ·rename_i hf
   rw [if_neg hf] at hb
   split
   ·refine .inr (cE.2 ⟨e, ?_, ho, hse⟩)
    show e ∈ q.waits.take i ++ [e] ++ q.waits.drop i
    simp
   ·rename_i hb2
    rw [if_neg hb2] at hb
    rcases hb with hb | hb
    ·exact absurd hb hb2
    ·cases hb
theorem s5 {l : List Rsn} {o : Int} {c : Clm} {w : Int} {r : Rsn} (h : r ∈ di l o c w) : (∃ r0 ∈ l, r0.o = r.o ∧ r0.c = r.c) ∨ (r.o = o ∧ r.c = c) := by
 unfold di at h
 split at h
 ·split at h
  ·rename_i r0 hr0
   rcases List.mem_or_eq_of_mem_set h with h | rfl
   ·exact .inl ⟨r, h, rfl, rfl⟩
   ·exact .inl ⟨r0, List.mem_of_getElem? hr0, rfl, rfl⟩
  ·exact .inl ⟨r, h, rfl, rfl⟩
 ·rcases List.mem_append.1 h with h | h
  ·exact .inl ⟨r, h, rfl, rfl⟩
  ·rw [List.mem_singleton.1 h]
   exact .inr ⟨rfl, rfl⟩
def ev (m : LkM) : Prop := ∀ r ∈ m.why, HW m.q r.o r.c
theorem mn {m : LkM} (h : ev m) (o w : Int) : ev (cY m o w).1 := by
 intro r hr
 have hr' : r ∈ dH m.why o w := hr
 obtain ⟨hm, _⟩ := List.mem_filter.1 hr'
 obtain ⟨r0, hr0, hl⟩ := List.mem_map.1 hm
 have h1 : r0.o = r.o ∧ r0.c = r.c := by
  rw [← hl]
  unfold fB
  split <;> exact ⟨rfl, rfl⟩
 have h2 := h r0 hr0
 rw [h1.1, h1.2] at h2
 show HW (aY RC m.q _).1 r.o r.c
 refine nl h2 (fun e he heo hes => ?_)
 unfold cq
 by_cases ho : e.o = o
 ·simp only [ho, decide_true, Bool.true_and]
  rw [List.any_eq_false]
  intro x hx hex
  have hp := (List.mem_filter.1 hx).2
  have hrx : RC.same r.c x = true := by rw [← dl hes]; exact hex
  unfold atR at hp
  rw [Option.isNone_iff_eq_none, List.findIdx?_eq_none_iff] at hp
  have := hp r hr'
  unfold ofR at this
  simp [heo.symm.trans ho, hrx] at this
 ·simp [ho]
theorem uE {m : LkM} (h : ev m) (o : Int) : ev (fM m o).1 := by
 intro r hr
 obtain ⟨hm, hz⟩ := List.mem_filter.1 (show r ∈ bI m.why o (fun _ => true) from hr)
 have hro : r.o ≠ o := by intro h; simp [h] at hz
 show HW (aY RC (bu RC m.q o).1 (ofE o)).1 r.o r.c
 exact nl (of (h r hm) (.inl hro)) (fun e _ heo _ => by unfold ofE; simp [heo, hro])
theorem pK {m : LkM} (hq : QOk m.q) (h : ev m) (o : Int) : ev (et m o).1 := by
 intro r hr
 show HW (bu RC m.q o).1 r.o r.c
 have hr' : r ∈ (if (aP m.q o).2 && !fN m o (aP m.q o).1 then bI m.why o (fun d => RC.same d (aP m.q o).1) else m.why) := hr
 have hm : r ∈ m.why := by
  split at hr'
  ·exact (List.mem_filter.1 hr').1
  ·exact hr'
 refine of (h r hm) ?_
 by_cases ho : r.o = o
 ·right
  rcases h r hm with h1 | h1
  ·exact h1
  ·obtain ⟨e, he, heo, hes⟩ := cE.1 h1
   have hw := tt hq he
   rw [heo, ho] at hw
   rw [hw] at hr'
   dsimp only at hr'
   split at hr'
   ·have hz := (List.mem_filter.1 hr').2
    have : RC.same r.c e.c = true := by rw [dd]; exact hes
    simp [ho, this] at hz
   ·rename_i hn
    have hh : fN m o e.c = true := by
     cases hh : fN m o e.c
     ·rw [hh] at hn; exact absurd rfl hn
     ·rfl
    rw [uG] at hh
    obtain ⟨x, hx, hxo, hxs⟩ := cE.1 hh
    refine cE.2 ⟨x, hx, hxo.trans ho.symm, ?_⟩
    rw [dd, ← dl hes, dd]
    exact hxs
 ·exact .inl ho
theorem ox {m : LkM} (h : ev m) {o : Int} {c : Clm} {b : Bool} (w : Int) (hs : RC.same c c = true) (hw : (bJ m.q.waits o).isSome = false) (hb : b = true ∨ (bj RC m.q o c b).2 = true) : ev ⟨(bj RC m.q o c b).1, di m.why o c w⟩ := by
 intro r hr
 rcases s5 (show r ∈ di m.why o c w from hr) with ⟨r0, hr0, h1, h2⟩ | ⟨h1, h2⟩
 ·rw [← h1, ← h2]
  exact hw_ask (h r0 hr0) _ _ _
 ·rw [h1, h2]
  exact tj hs hw hb
theorem eA {table : Int} {a b : Clm} (h : RC.same a b = true) : bY table a = bY table b := by
 obtain ⟨h1, h2, _⟩ := cL.1 h
 unfold bY
 rw [h1, h2]
theorem uP {m : LkM} (h : ev m) (o table : Int) {rows : List Clm} (hrows : ∀ x ∈ rows, bY table x = true) : ev ⟨(aY RC m.q (cq o rows)).1, bI m.why o (bY table)⟩ := by
 intro r hr
 obtain ⟨hm, hz⟩ := List.mem_filter.1 (show r ∈ bI m.why o (bY table) from hr)
 refine nl (h r hm) (fun e _ heo hes => ?_)
 unfold cq
 by_cases ho : e.o = o
 ·simp only [ho, decide_true, Bool.true_and]
  rw [List.any_eq_false]
  intro x hx hex
  have h1 : bY table r.c = true := by rw [← eA hes, eA hex]; exact hrows x hx
  simp [heo.symm.trans ho, h1] at hz
 ·simp [ho]
structure LkSame (ts : List (List Bool)) (room : Int) (m : LkM) (d : DocM) : Prop where
 t : d.ts = ts
 n : d.room = room
 q : d.q = m.q
 w : dM m.why
 r : fg d.r
 s : cV m.why d.r
 h : ev m
abbrev GoodR (dur hand : Int) : Prop := (dur = 1 ∧ hand = 0) ∨ (dur = 3 ∧ hand = 0) ∨ (dur = 2 ∧ (hand = 1 ∨ hand = 2))
theorem uO {dur hand : Int} (h : cu dur hand ≠ 0) : GoodR dur (if dur = 2 then hand else 0) ∧ cu dur (if dur = 2 then hand else 0) = cu dur hand := by
 unfold cu at h ⊢
 by_cases h1 : dur = 1
 ·subst h1; exact ⟨.inl ⟨rfl, rfl⟩, rfl⟩
 ·by_cases h3 : dur = 3
  ·subst h3; exact ⟨.inr (.inl ⟨rfl, rfl⟩), rfl⟩
  ·rw [if_neg h1, if_neg h3] at h
   have h2 : dur = 2 ∧ 1 ≤ hand ∧ hand ≤ 2 := by
    split at h
    ·assumption
    ·exact absurd rfl h
   rw [if_pos h2.1]
   exact ⟨.inr (.inr ⟨h2.1, by omega⟩), rfl⟩
theorem lq {ts : List (List Bool)} {c : Clm} (h : bH ts c = true) : RC.same c c = true := by
 unfold bH at h
 rw [Bool.and_eq_true] at h
 have hk := h.2
 unfold dS at hk
 refine cL.2 ⟨rfl, rfl, ?_⟩
 by_cases h1 : c.kind = 1
 ·exact .inl h1
 ·rw [if_neg h1] at hk
  by_cases h2 : c.kind = 2
  ·exact .inr (.inl ⟨h2, rfl⟩)
  ·rw [if_neg h2] at hk
   by_cases h3 : c.kind = 3
   ·exact .inr (.inr ⟨h3, rfl⟩)
   ·rw [if_neg h3] at hk; cases hk
section
variable {ts : List (List Bool)} {room : Int} {m : LkM} {d : DocM}
theorem mh (h : LkSame ts room m d) (o : Int) {dur hand : Int} (hd : GoodR dur hand) : LkSame ts room (cY m o (cu dur hand)).1 (ej d o dur hand).1 ∧ (cY m o (cu dur hand)).2 = (ej d o dur hand).2 := by
 have hw := ng h.w o (jO hd)
 have hr := tu h.r o dur hand
 have hs := mW h.s h.w h.r o hd
 have hp : (fun c => (atR (dH m.why o (cu dur hand)) o c).isNone) = (fun c => !cT (dh d.r o dur hand) o c) := funext fun c => mN hs hw hr o c
 have hq : aY RC d.q (cq o ((aN d.q o).filter (fun c => !cT (dh d.r o dur hand) o c))) = aY RC m.q (cq o ((aN m.q o).filter (fun c => (atR (dH m.why o (cu dur hand)) o c).isNone))) := by rw [h.q, hp]
 refine ⟨⟨h.t, h.n, ?_, hw, hr, hs, mn h.h o _⟩, ?_⟩
 ·show (aY RC d.q _).1 = _
  rw [hq]; rfl
 ·show _ = (aY RC d.q _).2
  rw [hq]; rfl
set_option maxRecDepth 100000 in
theorem sx : ∀ a : Fin 16, bits .andNot .u8 (a.val : Int) 0 = (a.val : Int) := by decide
theorem j4 {l : List Rsn} (h : dM l) (o : Int) : dH l o 0 = l := by
 unfold dH
 have hl : l.map (fB o 0) = l := by
  conv => rhs; rw [← List.map_id l]
  refine List.map_congr_left (fun r hr => ?_)
  obtain ⟨h0, h1, _⟩ := h r hr
  obtain ⟨f, hf⟩ := lj ⟨h0, h1⟩
  have := sx f
  rw [hf] at this
  unfold fB
  rw [this]
  split <;> rfl
 rw [hl]
 exact List.filter_eq_self.2 (fun r hr => by simpa using (h r hr).2.2)
theorem iY {l : List Rea} (h : fg l) (o : Int) : dh l o 0 0 = l := by
 unfold dh
 refine List.filter_eq_self.2 (fun x hx => ?_)
 have := h x hx
 have h0 : x.dur ≠ 0 := by omega
 simp [h0]
theorem sn (h : LkSame ts room m d) (o hand : Int) : LkSame ts room (cY m o (cu 2 hand)).1 (gk d o hand).1 ∧ (cY m o (cu 2 hand)).2 = (gk d o hand).2 := by
 unfold gk
 split
 ·rename_i hh
  exact mh h o (.inr (.inr ⟨rfl, by omega⟩))
 ·rename_i hh
  have hb : cu 2 hand = 0 := qW (by omega)
  rw [hb]
  have hp : (fun c => (atR (dH m.why o 0) o c).isNone) = (fun c => !cT (dh d.r o 0 0) o c) := funext fun c => by rw [j4 h.w, iY h.r]; exact mN h.s h.w h.r o c
  have hq : aY RC d.q (cq o ((aN d.q o).filter (fun c => !cT (dh d.r o 0 0) o c))) = aY RC m.q (cq o ((aN m.q o).filter (fun c => (atR (dH m.why o 0) o c).isNone))) := by rw [h.q, hp]
  refine ⟨⟨h.t, h.n, ?_, ?_, ?_, ?_, mn h.h o 0⟩, ?_⟩
  ·show (aY RC d.q _).1 = _
   rw [hq]; rfl
  ·show dM (dH m.why o 0)
   rw [j4 h.w]; exact h.w
  ·show fg (dh d.r o 0 0)
   rw [iY h.r]; exact h.r
  ·show cV (dH m.why o 0) (dh d.r o 0 0)
   rw [j4 h.w, iY h.r]; exact h.s
  ·show _ = (aY RC d.q _).2
   rw [hq]; rfl
theorem uL (h : LkSame ts room m d) (o : Int) : LkSame ts room (fM m o).1 (jj d o).1 ∧ (fM m o).2 = (jj d o).2 :=
 ⟨⟨h.t, h.n, by show (aY RC (bu RC d.q o).1 (ofE o)).1 = _; rw [h.q]; rfl, (show dM (bI m.why o (fun _ => true)) from iw h.w o _), (show fg (l3 d.r o) from endE_ok h.r o), (show cV (bI m.why o (fun _ => true)) (l3 d.r o) from oy h.s o), uE h.h o⟩, by unfold fM jj; rw [h.q]⟩
theorem pF (hq : QOk m.q) (h : LkSame ts room m d) (o : Int) : LkSame ts room (et m o).1 (eu d o).1 ∧ (et m o).2 = (eu d o).2 := by
 refine ⟨⟨h.t, h.n, by show (bu RC d.q o).1 = _; rw [h.q]; rfl, ?_, ?_, ?_, pK hq h.h o⟩, by unfold et eu; rw [h.q]⟩
 ·show dM (if (aP m.q o).2 && !fN m o (aP m.q o).1 then bI m.why o (fun d => RC.same d (aP m.q o).1) else m.why)
  split
  ·exact iw h.w o _
  ·exact h.w
 ·show fg (if (aP d.q o).2 && !(aN d.q o).any (fun h => RC.same h (aP d.q o).1) then bL d.r o (aP d.q o).1 else d.r)
  split
  ·exact kq h.r o _
  ·exact h.r
 ·show cV (if (aP m.q o).2 && !fN m o (aP m.q o).1 then bI m.why o (fun d => RC.same d (aP m.q o).1) else m.why) (if (aP d.q o).2 && !(aN d.q o).any (fun h => RC.same h (aP d.q o).1) then bL d.r o (aP d.q o).1 else d.r)
  rw [h.q]
  show cV _ (if (aP m.q o).2 && !fN m o (aP m.q o).1 then bL d.r o (aP m.q o).1 else d.r)
  split
  ·exact k8 h.s o _
  ·exact h.s
theorem uf (h : LkSame ts room m d) (o : Int) (c : Clm) (dur hand : Int) : LkSame ts room (cW m room (bH ts c) o c dur hand).1 (gQ d o c dur hand).1 ∧ (cW m room (bH ts c) o c dur hand).2 = (gQ d o c dur hand).2 := by
 unfold cW gQ
 rw [h.t]
 split
 ·exact ⟨h, rfl⟩
 ·rename_i h1
  rw [h.q]
  split
  ·exact ⟨h, rfl⟩
  ·rename_i h2
   have hl : gd d = m.q.held.length + m.q.waits.length := by unfold gd; rw [h.q]
   rw [hl, h.n]
   show LkSame ts room (if !fN m o c && _ then _ else _ : LkM × Bool × Int).1 (if !fN m o c && _ then _ else _ : DocM × Bool × Int).1 ∧ (if !fN m o c && _ then _ else _ : LkM × Bool × Int).2 = (if !fN m o c && _ then _ else _ : DocM × Bool × Int).2
   split
   ·exact ⟨h, rfl⟩
   ·rw [Bool.or_eq_true, decide_eq_true_eq, Bool.not_eq_true'] at h1
    have hm : bH ts c = true := by cases hm : bH ts c; exact absurd (.inl hm) h1; rfl
    have hb : cu dur hand ≠ 0 := fun hb => h1 (.inr hb)
    obtain ⟨g1, g2⟩ := uO hb
    have hx := nx h.s h.w ⟨o, c, dur, if dur = 2 then hand else 0⟩ g1
    dsimp only at hx
    rw [g2] at hx
    have hin := jO g1
    rw [g2] at hin
    refine ⟨⟨rfl, rfl, rfl, kz h.w o c hin, ?_, hx, ?_⟩, rfl⟩
    ·intro x hx
     rcases List.mem_append.1 hx with hx | hx
     ·exact h.r x hx
     ·rw [List.mem_singleton.1 hx]; exact g1
    ·refine ox h.h _ (lq hm) ?_ (.inl rfl)
     rw [eH] at h2
     simpa using h2
noncomputable def hO (d : DocM) (o table many : Int) : DocM × Bool :=
 if (bB d.q o table).length = 0 ∨ ((bB d.q o table).length : Int) ≤ many ∨ (bj RC d.q o (dB table (bB d.q o table)) false).2 = false then (d, false) else
 (⟨d.ts, d.room, (aY RC (bj RC d.q o (dB table (bB d.q o table)) false).1 (cq o (bB d.q o table))).1, (bB d.q o table).foldl (fun m c => bL m o c) d.r ++ [⟨o, dB table (bB d.q o table), 3, 0⟩]⟩, true)
theorem oX (table : Int) (rows : List Clm) : RC.same (dB table rows) (dB table rows) = true := cL.2 ⟨rfl, rfl, .inl rfl⟩
theorem ka (o : Int) : ∀ (rows : List Clm) {l : List Rea}, fg l → fg (rows.foldl (fun m c => bL m o c) l)
 | [], _, h => h
 | c :: rows, _, h => ka o rows (kq h o c)
theorem tD {q : Qm Clm} {o table : Int} : ∀ x ∈ bB q o table, bY table x = true := fun _ hx => (List.mem_filter.1 hx).2
theorem ud (h : LkSame ts room m d) (o table many : Int) : LkSame ts room (gP m o table many).1 (hO d o table many).1 ∧ (gP m o table many).2 = (hO d o table many).2 := by
 unfold hO
 rw [h.q]
 by_cases h0 : (bB m.q o table).length = 0 ∨ ((bB m.q o table).length : Int) ≤ many ∨ (bj RC m.q o (dB table (bB m.q o table)) false).2 = false
 ·rw [if_pos h0]
  unfold gP
  rw [if_pos h0]
  exact ⟨h, rfl⟩
 ·rw [if_neg h0]
  have h1 : (bB m.q o table).length ≠ 0 := fun h => h0 (.inl h)
  have h2 : many < ((bB m.q o table).length : Int) := by
   by_cases h2 : ((bB m.q o table).length : Int) ≤ many
   ·exact absurd (.inr (.inl h2)) h0
   ·omega
  have h3 : (bj RC m.q o (dB table (bB m.q o table)) false).2 = true := by
   cases h3 : (bj RC m.q o (dB table (bB m.q o table)) false).2
   ·exact absurd (.inr (.inr h3)) h0
   ·rfl
  rw [pp h1 h2 h3]
  clear h0
  have hnw : (bJ m.q.waits o).isSome = false := by
   cases hw : (bJ m.q.waits o).isSome
   ·rfl
   ·unfold bj at h3; rw [hw] at h3; simp at h3
  have hrows : ∀ x ∈ bB m.q o table, bY table x = true := tD
  generalize hR : bB m.q o table = R at *
  have hc : bY table (dB table R) = false := by unfold bY dB; simp
  have hcs := oX table R
  generalize dB table R = c at *
  have hn := ox h.h (c := c) (b := false) 8 hcs hnw (.inr h3)
  have hwn : dM (di m.why o c 8) := kz h.w o c (by decide)
  have hper : ∀ (l : List Rsn), ∀ r ∈ l, ∀ c : Clm, RC.same r.c c = true → bY table r.c = bY table c := fun _ _ _ _ hs => eA hs
  have hsw : cV (bI m.why o (bY table)) (R.foldl (fun m d => bL m o d) d.r) := by
   refine mZ h.s o (bY table) (hper _) R (fun x hx ⟨b, _, r, hr, hro, hrs, _⟩ => ?_) hrows
   rcases h.h r hr with h4 | h4
   ·obtain ⟨e, he, heo, hes⟩ := cE.1 h4
    refine ⟨e.c, ?_, ?_⟩
    ·rw [← hR]
     refine List.mem_filter.2 ⟨List.mem_map.2 ⟨e, List.mem_filter.2 ⟨he, by unfold ofE; simp [heo, hro]⟩, rfl⟩, ?_⟩
     rw [eA hes, eA hrs]; exact hx
    ·rw [dd, dl hes]; exact hrs
   ·obtain ⟨e, he, heo, _⟩ := cE.1 h4
    exact absurd (heo.trans hro) (eQ hnw e he)
  refine ⟨⟨h.t, h.n, rfl, iw hwn o _, ?_, ?_, ?_⟩, rfl⟩
  ·intro x hx
   rcases List.mem_append.1 hx with hx | hx
   ·exact ka o R h.r x hx
   ·rw [List.mem_singleton.1 hx]; exact .inr (.inl ⟨rfl, rfl⟩)
  ·intro o' c' b hb
   have e1 := fw (di m.why o c 8) o (bY table) o' c' b (fun r hr hs => hper _ r hr c' hs)
   have e2 := kV h.w o c (w := 8) (by decide) o' c' hb
   have e3 := fw m.why o (bY table) o' c' b (fun r hr hs => hper _ r hr c' hs)
   have e4 := hsw o' c' b hb
   have e5 := ms (R.foldl (fun m d => bL m o d) d.r) ⟨o, c, 3, 0⟩ o' c' b
   refine e1.trans (Iff.trans ?_ e5.symm)
   rw [e2, ← e4, e3]
   constructor
   ·rintro ⟨h5 | ⟨h5, h6, h7⟩, h8⟩
    ·exact .inl ⟨h5, h8⟩
    ·exact .inr ⟨h5, h6, h7⟩
   ·rintro (⟨h5, h6⟩ | ⟨h5, h6, h7⟩)
    ·exact ⟨.inl h5, h6⟩
    ·refine ⟨.inr ⟨h5, h6, h7⟩, fun h8 => ?_⟩
     rw [← eA h6, hc] at h8
     exact absurd h8.2 (by simp)
  ·exact uP (m := ⟨(bj RC m.q o c false).1, di m.why o c 8⟩) hn o table hrows
noncomputable def gN (ts : List (List Bool)) (room : Int) (m : LkM) (d : DocM) (k o : Int) (c : Clm) (dur hand table many : Int) : LkM × DocM × Bool :=
 if k = 15 then ((gP m o table many).1, (hO d o table many).1, decide ((gP m o table many).2 = (hO d o table many).2)) else ex ts room m d k o c dur hand
theorem sE (hq : QOk m.q) (h : LkSame ts room m d) (k o : Int) (c : Clm) (dur hand table many : Int) :
  LkSame ts room (gN ts room m d k o c dur hand table many).1 (gN ts room m d k o c dur hand table many).2.1 ∧ (gN ts room m d k o c dur hand table many).2.2 = true := by
 unfold gN ex
 split
 ·obtain ⟨h1, h2⟩ := ud h o table many
  exact ⟨h1, by simp [h2]⟩
 split
 ·obtain ⟨h1, h2⟩ := mh h o (dur := 1) (hand := 0) (.inl ⟨rfl, rfl⟩)
  rw [show cu 1 0 = 1 from rfl] at h1 h2
  exact ⟨h1, by simp [h2]⟩
 split
 ·obtain ⟨h1, h2⟩ := sn h o hand
  exact ⟨h1, by simp [h2]⟩
 split
 ·obtain ⟨h1, h2⟩ := uL h o
  exact ⟨h1, by simp [h2]⟩
 split
 ·obtain ⟨h1, h2⟩ := pF hq h o
  exact ⟨h1, by simp [h2]⟩
 ·obtain ⟨h1, h2⟩ := uf h o c dur hand
  exact ⟨h1, by simp [h2]⟩
end
def gV (c : Clm) : Prop := RC.same c c = true ∧ bG c.mode = true
theorem po {a : Int} (h : bG a = true) : aO a a = true := by rcases bU h with rfl | rfl | rfl | rfl | rfl | rfl | rfl <;> decide
theorem nX {a b : Int} (ha : bG a = true) (hb : bG b = true) : bG (dC a b) = true ∧ aO (dC a b) a = true ∧ aO (dC a b) b = true := by
 rcases bU ha with rfl | rfl | rfl | rfl | rfl | rfl | rfl <;> rcases bU hb with rfl | rfl | rfl | rfl | rfl | rfl | rfl <;> decide
theorem ni {a b c : Int} (h1 : aO a b = true) (h2 : aO b c = true) : aO a c = true := by
 unfold aO at *
 simp only [Bool.and_eq_true, List.all_eq_true, Bool.or_eq_true, Bool.not_eq_true'] at *
 refine ⟨⟨h1.1.1, h2.1.2⟩, fun i hi => ?_⟩
 rcases h1.2 i hi with h | h
 ·exact .inl h
 ·rcases h2.2 i hi with h' | h'
  ·rw [h] at h'; cases h'
  ·exact .inr h'
theorem mQ {l : List (List Val)} {r : List Val} : dt l r = true ↔ r ∈ l := by
 unfold dt
 rw [List.any_eq_true]
 constructor
 ·rintro ⟨x, hx, h⟩
  rw [decide_eq_true_eq] at h
  rw [← h]; exact hx
 ·exact fun h => ⟨r, h, by simp⟩
theorem nk {m : List (List Val)} : ∀ {l : List (List Val)} {r : List Val}, r ∈ m → r ∈ b7 l m := by
 unfold b7
 induction m with
 | nil => intro l r h; cases h
 | cons x m ih =>
  intro l r h
  show r ∈ m.foldl _ (if dt l x then l else l ++ [x])
  rcases List.mem_cons.1 h with rfl | h
  ·have h0 : r ∈ (if dt l r then l else l ++ [r]) := by
    split
    ·rename_i hi; exact mQ.1 hi
    ·simp
   exact gX (m := m) h0
  ·exact ih h
theorem gH {a b : Clm} : RC.cov a b = true ↔ RC.same a b = true ∧ aO a.mode b.mode = true ∧ ∀ r ∈ b.imgs, r ∈ a.imgs := by
 show qr a b = true ↔ _
 unfold qr
 rw [Bool.and_eq_true, Bool.and_eq_true, List.all_eq_true, and_assoc]
 exact and_congr_right fun _ => and_congr_right fun _ => forall_congr' fun r => forall_congr' fun _ => mQ
theorem ik {c : Clm} (h : gV c) : RC.cov c c = true := gH.2 ⟨h.1, po h.2, fun _ h => h⟩
theorem ss {a b c : Clm} (h1 : RC.cov a b = true) (h2 : RC.cov b c = true) : RC.cov a c = true := by
 obtain ⟨a1, a2, a3⟩ := gH.1 h1
 obtain ⟨b1, b2, b3⟩ := gH.1 h2
 exact gH.2 ⟨by rw [dl a1]; exact b1, ni a2 b2, fun r hr => a3 r (b3 r hr)⟩
theorem iB {h c : Clm} (hs : RC.same h c = true) : RC.join h c = { h with mode := dC h.mode c.mode, imgs := b7 h.imgs c.imgs } := by
 show dL h c = _
 unfold dL
 rw [if_pos (show cI h c = true from hs)]
theorem gn {h c : Clm} (hs : RC.same h c = true) (y : Clm) : RC.same (RC.join h c) y = RC.same h y := by
 rw [iB hs]; rfl
theorem uD {h c : Clm} (hs : RC.same h c = true) (hh : gV h) (hc : gV c) : gV (RC.join h c) ∧ RC.cov (RC.join h c) h = true ∧ RC.cov (RC.join h c) c = true := by
 obtain ⟨m1, m2, m3⟩ := nX hh.2 hc.2
 refine ⟨⟨?_, ?_⟩, gH.2 ⟨?_, ?_, ?_⟩, gH.2 ⟨?_, ?_, ?_⟩⟩
 ·rw [gn hs, dd, gn hs]; exact hh.1
 ·rw [iB hs]; exact m1
 ·rw [gn hs]; exact hh.1
 ·rw [iB hs]; exact m2
 ·rw [iB hs]; exact fun r hr => gX hr
 ·rw [gn hs]; exact hs
 ·rw [iB hs]; exact m3
 ·rw [iB hs]; exact fun r hr => nk hr
theorem lO {ts : List (List Bool)} {c : Clm} (h : bH ts c = true) : gV c := by
 refine ⟨lq h, ?_⟩
 unfold bH at h
 rw [Bool.and_eq_true] at h
 have hk := h.2
 unfold dS at hk
 split at hk
 ·rw [Bool.and_eq_true] at hk; exact hk.1
 ·split at hk
  ·unfold cD at hk
   rw [Bool.and_eq_true] at hk
   have h2 := hk.2
   split at h2
   ·rename_i h3
    rcases h3 with h3 | h3 <;> rw [h3] <;> decide
   ·split at h2
    ·rename_i h3; rw [h3]; decide
    ·cases h2
  ·split at hk
   ·rw [Bool.and_eq_true, decide_eq_true_eq] at hk
    rw [hk.1]; decide
   ·cases hk
theorem uF (table : Int) (rows : List Clm) : gV (dB table rows) := ⟨oX table rows, by unfold dB; dsimp only; split <;> decide⟩
theorem RC_okM : RulOk RC (fun c => bG c.mode = true) := ⟨fG, fun h c y hs => je h c y hs, fun h c y m1 m2 hs hy => by
 show gt (dL h c) y = true
 have hy : gt h y = true := hy
 unfold dL
 rw [if_pos (show cI h c = true from hs)]
 unfold gt at hy ⊢
 rw [Bool.and_eq_true] at hy ⊢
 refine ⟨hy.1, ?_⟩
 have hy2 := hy.2
 dsimp only
 split
 ·rename_i hk
  rw [if_pos hk] at hy2
  simp only [Bool.not_eq_true'] at hy2 ⊢
  exact mt m1 m2 hy2
 ·rename_i hk
  rw [if_neg hk] at hy2
  split
  ·rename_i hk
   rw [if_pos hk] at hy2
   simp only [Bool.and_eq_true, Bool.not_eq_true'] at hy2 ⊢
   exact ⟨hy2.1, mt m1 m2 hy2.2⟩
  ·rename_i hk
   rw [if_neg hk] at hy2
   split
   ·rename_i hk
    rw [if_pos hk] at hy2
    exact hy2
   ·rename_i hk
    rw [if_neg hk] at hy2
    split
    ·rename_i hk
     rw [if_pos hk] at hy2
     unfold ci at hy2 ⊢
     rw [Bool.and_eq_true, decide_eq_true_eq] at hy2 ⊢
     refine ⟨joinM_x hy2.1 m2, ?_⟩
     obtain ⟨r, hr, h3⟩ := List.any_eq_true.1 hy2.2
     exact List.any_eq_true.2 ⟨r, gX hr, h3⟩
    ·rename_i hk
     rw [if_neg hk] at hy2
     exact hy2⟩
def Covd (l l' : List (Ent Clm)) (o : Int) : Prop := ∀ e ∈ l, e.o = o → ∃ e' ∈ l', e'.o = o ∧ RC.cov e'.c e.c = true
theorem Covd.trans {l l' l2 : List (Ent Clm)} {o : Int} (h : Covd l l' o) (h2 : Covd l' l2 o) : Covd l l2 o := fun e he ho => by
 obtain ⟨e', he', ho', hc⟩ := h e he ho
 obtain ⟨e2, he2, ho2, hc2⟩ := h2 e' he' ho'
 exact ⟨e2, he2, ho2, ss hc2 hc⟩
structure Keep (q : Qm Clm) : Prop where
 ok : QOk q
 once : oR q.held
 sane : AllE (fun _ => gV) q
 wc : ∀ e ∈ q.waits, ∀ x ∈ q.held, x.o = e.o → RC.same x.c e.c = true → RC.cov e.c x.c = true
theorem ui {l : List (Ent Clm)} (e : Ent Clm) {x : Ent Clm} (hx : x ∈ l) : x ∈ cy RC l e ∨ (x.o = e.o ∧ RC.same x.c e.c = true) := by
 unfold cy
 split
 ·rename_i k hk
  obtain ⟨y, hy, hyo, hys, hlt⟩ := eG hk
  obtain ⟨_, rfl⟩ := List.getElem?_eq_some_iff.1 hy
  obtain ⟨i, hi, rfl⟩ := List.mem_iff_getElem.1 hx
  by_cases hik : i = k
  ·subst hik; exact .inr ⟨hyo, hys⟩
  ·exact .inl (List.mem_iff_getElem.2 ⟨i, by simpa using hi, by rw [List.getElem_set_ne (Ne.symm hik)]⟩)
 ·exact .inl (List.mem_append.2 (.inl hx))
theorem mM {q : Qm Clm} {ws : List (Ent Clm)} {e : Ent Clm} (K : Keep q) (hs : ws.Sublist q.waits) (he : gV e.c) (hcov : ∀ x ∈ q.held, x.o = e.o → RC.same x.c e.c = true → RC.cov e.c x.c = true) (hne : ∀ w ∈ ws, w.o ≠ e.o) :
  Keep ⟨cy RC q.held e, ws⟩ ∧ ∀ o, Covd q.held (cy RC q.held e) o := by
 refine ⟨⟨QOk.sub K.ok hs, qg K.once e, ⟨fun x hx => ?_, fun w hw => K.sane.2 w (hs.subset hw)⟩, fun w hw x hx hxo hxs => ?_⟩, fun o x hx hxo => ?_⟩
 ·rcases fS hx with h | rfl
  ·exact K.sane.1 x h
  ·exact he
 ·rcases fS hx with h | rfl
  ·exact K.wc w (hs.subset hw) x h hxo hxs
  ·exact absurd hxo.symm (hne w hw)
 ·rcases ui e hx with h | ⟨h1, h2⟩
  ·exact ⟨x, h, hxo, ik (K.sane.1 x hx)⟩
  ·exact ⟨e.less, kD _ _, h1.symm.trans hxo, hcov x hx h1 h2⟩
theorem lH {q : Qm Clm} (K : Keep q) : Keep (bS RC q).1 ∧ ∀ o, Covd q.held (bS RC q).1.held o := by
 have h := dv (R := RC) (P := fun p => Keep p ∧ ∀ o, Covd q.held p.held o) (fun p i e h hf he => by
  obtain ⟨K, hc⟩ := h
  have hm : e ∈ p.waits := List.mem_of_getElem? he
  obtain ⟨h1, h2⟩ := mM (ws := p.waits.eraseIdx i) (e := e) K (List.eraseIdx_sublist _ _) (K.sane.2 e hm) (K.wc e hm) (fun w hw hwo => by
   obtain ⟨j, hj, hji, rfl⟩ := List.mem_eraseIdx_iff_getElem.1 hw
   obtain ⟨hi, rfl⟩ := List.getElem?_eq_some_iff.1 he
   rcases Nat.lt_or_gt_of_ne hji with h | h
   ·exact List.pairwise_iff_getElem.1 K.ok.once j i hj hi h hwo
   ·exact List.pairwise_iff_getElem.1 K.ok.once i j hi hj h hwo.symm)
  exact ⟨h1, fun o => (hc o).trans (h2 o)⟩) q.waits.length q ⟨K, fun o e he ho => ⟨e, he, ho, ik (K.sane.1 e he)⟩⟩
 exact h
theorem Keep.sub {q : Qm Clm} (K : Keep q) {hs ws : List (Ent Clm)} (h1 : hs.Sublist q.held) (h2 : ws.Sublist q.waits) : Keep ⟨hs, ws⟩ :=
 ⟨QOk.sub K.ok h2, K.once.sublist h1, ⟨fun x hx => K.sane.1 x (h1.subset hx), fun x hx => K.sane.2 x (h2.subset hx)⟩, fun e he x hx => K.wc e (h2.subset he) x (h1.subset hx)⟩
theorem sj {q : Qm Clm} (K : Keep q) (g : Ent Clm → Bool) : Keep (aY RC q g).1 ∧ ∀ o, (∀ e ∈ q.held, e.o = o → g e = false) → Covd q.held (aY RC q g).1.held o := by
 obtain ⟨h1, h2⟩ := lH (K.sub (hs := q.held.filter (fun e => !g e)) (ws := q.waits) List.filter_sublist (List.Sublist.refl _))
 exact ⟨h1, fun o hg => Covd.trans (fun e he ho => ⟨e, List.mem_filter.2 ⟨he, by simp [hg e he ho]⟩, ho, ik (K.sane.1 e he)⟩) (h2 o)⟩
theorem qs {q : Qm Clm} (K : Keep q) (o : Int) : Keep (bu RC q o).1 ∧ ∀ p, Covd q.held (bu RC q o).1.held p := lH (K.sub (List.Sublist.refl _) List.filter_sublist)
theorem once_eq {l : List (Ent Clm)} (h : oR l) {x y : Ent Clm} (hx : x ∈ l) (hy : y ∈ l) (ho : x.o = y.o) (hs : RC.same x.c y.c = true) : x = y := by
 obtain ⟨i, hi, rfl⟩ := List.mem_iff_getElem.1 hx
 obtain ⟨j, hj, rfl⟩ := List.mem_iff_getElem.1 hy
 rcases Nat.lt_trichotomy i j with h1 | h1 | h1
 ·exact absurd ⟨ho, hs⟩ (List.pairwise_iff_getElem.1 h i j hi hj h1)
 ·subst h1; rfl
 ·exact absurd ⟨ho.symm, by rw [dd]; exact hs⟩ (List.pairwise_iff_getElem.1 h j i hj hi h1)
theorem pq {q : Qm Clm} (K : Keep q) (o : Int) {c : Clm} (hc : gV c) (b : Bool) :
  Keep (bj RC q o c b).1 ∧ (∀ p, Covd q.held (bj RC q o c b).1.held p) ∧ ((bj RC q o c b).2 = true → (∀ w ∈ (bj RC q o c b).1.waits, w.o ≠ o) ∧ (bj RC q o c b).1.waits = q.waits ∧ ∃ x ∈ (bj RC q o c b).1.held, x.o = o ∧ RC.cov x.c c = true) := by
 have hok := ub (R := RC) K.ok o c b
 have hself : ∀ p, Covd q.held q.held p := fun p e he ho => ⟨e, he, ho, ik (K.sane.1 e he)⟩
 revert hok
 unfold bj
 cases hw : (bJ q.waits o).isSome
 ·simp only [Bool.false_eq_true, if_false]
  have hnw := eQ hw
  cases ha : dj RC q o c with
  | none =>
   intro _
   refine ⟨K, hself, fun _ => ⟨hnw, rfl, ?_⟩⟩
   unfold dj at ha
   split at ha
   ·cases ha
   ·rename_i k hk
    obtain ⟨x, hx, hxo, hxs, _⟩ := eG hk
    rw [hx] at ha
    dsimp only at ha
    split at ha
    ·rename_i hcv; exact ⟨x, List.mem_of_getElem? hx, hxo, hcv⟩
    ·cases ha
  | some p =>
   obtain ⟨e, i⟩ := p
   obtain ⟨ho, _, hm⟩ := fx ha
   have hfact : gV e.c ∧ RC.cov e.c c = true ∧ ∀ x ∈ q.held, x.o = e.o → RC.same x.c e.c = true → RC.cov e.c x.c = true := by
    rcases hm with ⟨_, _, hec, hn⟩ | ⟨_, _, k, y, hk, hy, _, hec⟩
    ·rw [hec]
     refine ⟨hc, ik hc, fun x hx hxo hxs => ?_⟩
     have : (cM RC q.held o c).isSome = true := cE.2 ⟨x, hx, hxo.trans ho, hxs⟩
     rw [hn] at this; cases this
    ·obtain ⟨z, hz, hzo, hzs, _⟩ := eG hk
     rw [hy] at hz
     obtain rfl := Option.some.inj hz
     have hym := List.mem_of_getElem? hy
     obtain ⟨j1, j2, j3⟩ := uD hzs (K.sane.1 y hym) hc
     rw [hec]
     refine ⟨j1, j3, fun x hx hxo hxs => ?_⟩
     have hxy : RC.same x.c y.c = true := by rw [dd, ← gn hzs, dd]; exact hxs
     obtain rfl := once_eq K.once hx hym (hxo.trans (ho.trans hzo.symm)) hxy
     exact j2
   obtain ⟨f1, f2, f3⟩ := hfact
   dsimp only
   split
   ·intro _
    obtain ⟨k1, k2⟩ := mM (ws := q.waits) (e := e) K (List.Sublist.refl _) f1 f3 (fun w hw => by rw [ho]; exact hnw w hw)
    exact ⟨k1, k2, fun _ => ⟨hnw, rfl, e.less, kD _ _, ho, f2⟩⟩
   ·split
    ·intro hok
     have hin : ∀ w ∈ q.waits.take i ++ [e] ++ q.waits.drop i, w ∈ q.waits ∨ w = e := fun w hw => by
      rcases List.mem_append.1 hw with hw | hw
      ·rcases List.mem_append.1 hw with hw | hw
       ·exact .inl (List.mem_of_mem_take hw)
       ·exact .inr (List.mem_singleton.1 hw)
      ·exact .inl (List.mem_of_mem_drop hw)
     refine ⟨⟨hok, K.once, ⟨K.sane.1, fun w hw => ?_⟩, fun w hw x hx => ?_⟩, hself, fun h => by cases h⟩
     ·rcases hin w hw with hw | rfl
      ·exact K.sane.2 w hw
      ·exact f1
     ·rcases hin w hw with hw | rfl
      ·exact K.wc w hw x hx
      ·exact f3 x hx
    ·exact fun _ => ⟨K, hself, fun h => by cases h⟩
 ·simp only [if_true]
  exact fun _ => ⟨K, hself, fun h => by cases h⟩
structure Sound (q : Qm Clm) : Prop extends Keep q where
 apart : Apart RC q.held
 stuck : kg RC q
theorem Sound.modes {q : Qm Clm} (S : Sound q) : AllE (fun _ c => bG c.mode = true) q := ⟨fun e he => (S.sane.1 e he).2, fun e he => (S.sane.2 e he).2⟩
theorem eJ {q : Qm Clm} (S : Sound q) (g : Ent Clm → Bool) : Sound (aY RC q g).1 := ⟨(sj S.toKeep g).1, pV fG S.apart g, kl _⟩
theorem gT {q : Qm Clm} (S : Sound q) (o : Int) : Sound (bu RC q o).1 := ⟨(qs S.toKeep o).1, oh fG S.apart o, kl _⟩
theorem jX {q : Qm Clm} (S : Sound q) (o : Int) {c : Clm} (hc : gV c) (b : Bool) : Sound (bj RC q o c b).1 := ⟨(pq S.toKeep o hc b).1, sq fG S.apart o c b, sI RC_okM S.stuck S.modes o c b hc.2⟩
theorem sC : Sound ⟨[], []⟩ := ⟨⟨⟨List.Pairwise.nil, List.Pairwise.nil⟩, List.Pairwise.nil, ⟨fun e he => (by cases he), fun e he => (by cases he)⟩, fun e he => (by cases he)⟩, fun e he => (by cases he), fun i e he => (by simp at he)⟩
theorem qC {ts : List (List Bool)} {room : Int} {m : LkM} {d : DocM} (S : Sound m.q) (k o : Int) (c : Clm) (dur hand table many : Int) : Sound (gN ts room m d k o c dur hand table many).1.q := by
 unfold gN ex
 split
 ·show Sound (gP m o table many).1.q
  unfold gP
  split
  ·exact S
  ·exact eJ (jX S o (uF _ _) false) _
 split
 ·exact eJ S _
 split
 ·exact eJ S _
 split
 ·exact eJ (gT S o) _
 split
 ·exact gT S o
 ·show Sound (cW m room (bH ts c) o c dur hand).1.q
  unfold cW
  split
  ·exact S
  split
  ·exact S
  split
  ·exact S
  ·rename_i h1 _ _
   have hm : bH ts c = true := by cases hm : bH ts c; rw [hm] at h1; simp at h1; rfl
   exact jX S o (lO hm) true
end Go.Proofs.YtgljdkjepdknnaaGreatDoor
