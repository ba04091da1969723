/- Joined texts: What is taken back, as data. What put and out noted gives the tables back. IndexFunc, ContainsFunc over predicates. (printed by genq.py) Are two rows the same (ratlineref02.Same). Whether a part about a column holds (pred.leaf). -/
import Derived.Test.YtdobimafhbfkhaaGreatON32
import Derived.Test.YtdobimafhbfkhaaGreatON9
set_option maxHeartbeats 64000000
namespace Go.Proofs.YtdobimafhbfkhaaGreat
set_option linter.unusedSimpArgs false
def ltR (k : Val) (q : List Val) : Bool := decide (ai (aH q) k < 0)
def gtR (k : Val) (q : List Val) : Bool := decide (0 < ai (aH q) k)
def rj (r : List Val) : Val × VT := (aH r, RowT.none)
theorem iJ (m : au) (r : List Val) : cj m r = m.filter (ltR (aH r)) ++ r :: m.filter (gtR (aH r)) := rfl
theorem jp {x : List Val} {m : au} (h : bi (ew (x :: m))) : (∀ y ∈ m, ai (aH x) (aH y) < 0) ∧ bi (ew m) := by
 have h' : (rj x :: ew m).Pairwise (fun a b => ai a.1 b.1 < 0) := h
 rw [List.pairwise_cons] at h'
 exact ⟨fun y hy => h'.1 (rj y) (List.mem_map_of_mem hy), h'.2⟩
theorem above {x : List Val} {m : au} {k : Val} (h : ∀ y ∈ m, ai (aH x) (aH y) < 0) (hx : ai k (aH x) ≤ 0) : m.filter (ltR k) = [] ∧ m.filter (gtR k) = m := by
 have hk : ∀ y ∈ m, ai k (aH y) < 0 := fun y hy => jm hx (h y hy)
 refine ⟨List.filter_eq_nil_iff.2 fun y hy => ?_, List.filter_eq_self.2 fun y hy => ?_⟩
 ·have := hk y hy
  have e := cW k (aH y)
  unfold ltR
  rw [decide_eq_true_eq]
  omega
 ·have := hk y hy
  have e := cW k (aH y)
  unfold gtR
  rw [decide_eq_true_eq]
  omega
theorem kz {k : Val} : ∀ {m : au}, bi (ew m) → (∀ q ∈ m, ai (aH q) k ≠ 0) → m.filter (ltR k) ++ m.filter (gtR k) = m
 | [], _, _ => rfl
 | x :: m, hs, hn => by
  obtain ⟨h1, h2⟩ := jp hs
  have hx := hn x (List.mem_cons_self ..)
  by_cases hlt : ai (aH x) k < 0
  ·have e1 : ltR k x = true := decide_eq_true hlt
   have e2 : gtR k x = false := decide_eq_false (by omega)
   rw [List.filter_cons, List.filter_cons, e1, e2]
   simp only [if_true, Bool.false_eq_true, if_false, List.cons_append]
   rw [kz h2 (fun q hq => hn q (List.mem_cons_of_mem _ hq))]
  ·have e1 : ltR k x = false := decide_eq_false hlt
   have e2 : gtR k x = true := decide_eq_true (by omega)
   obtain ⟨g1, g2⟩ := above (k := k) h1 (by have := cW (aH x) k; omega)
   rw [List.filter_cons, List.filter_cons, e1, e2, g1, g2]
   rfl
theorem ie {k : Val} {q : List Val} : ∀ {m : au}, bi (ew m) → q ∈ m → ai (aH q) k = 0 → m.filter (ltR k) ++ q :: m.filter (gtR k) = m
 | x :: m, hs, hq, h0 => by
  obtain ⟨h1, h2⟩ := jp hs
  rcases List.mem_cons.1 hq with rfl | hq
  ·have e1 : ltR k q = false := decide_eq_false (by omega)
   have e2 : gtR k q = false := decide_eq_false (by omega)
   obtain ⟨g1, g2⟩ := above (k := k) h1 (by have := cW (aH q) k; omega)
   rw [List.filter_cons, List.filter_cons, e1, e2, g1, g2]
   rfl
  ·have hlt : ai (aH x) k < 0 := iA (h1 q hq) (by omega)
   have e1 : ltR k x = true := decide_eq_true hlt
   have e2 : gtR k x = false := decide_eq_false (by omega)
   rw [List.filter_cons, List.filter_cons, e1, e2]
   simp only [if_true, Bool.false_eq_true, if_false, List.cons_append]
   rw [ie h2 hq h0]
theorem lN (k : Val) (y : List Val) : (ltR k y && gtR k y) = false := by
 unfold ltR gtR
 rw [Bool.and_eq_false_iff, decide_eq_false_iff_not, decide_eq_false_iff_not]
 omega
theorem pA (m : au) : m.filter (fun _ => false) = [] := List.filter_eq_nil_iff.2 (fun _ _ => by simp)
theorem filt_lt (m : au) (r : List Val) : (cj m r).filter (ltR (aH r)) = m.filter (ltR (aH r)) := by
 have e1 : ltR (aH r) r = false := decide_eq_false (by rw [cP]; omega)
 rw [iJ, List.filter_append, List.filter_cons, e1, List.filter_filter, List.filter_filter]
 simp only [Bool.false_eq_true, if_false, lN, Bool.and_self, pA, List.append_nil]
theorem filt_gt (m : au) (r : List Val) : (cj m r).filter (gtR (aH r)) = m.filter (gtR (aH r)) := by
 have e1 : gtR (aH r) r = false := decide_eq_false (by rw [cP]; omega)
 rw [iJ, List.filter_append, List.filter_cons, e1, List.filter_filter, List.filter_filter]
 simp only [Bool.false_eq_true, if_false, Bool.and_comm (gtR _ _), lN, Bool.and_self, pA, List.nil_append]
theorem put_put {c : List Bool} {m : au} (h : TabI c m) {r q : List Val} (hq : q ∈ m) (hk : aH q = aH r) : cj (cj m r) q = m := by
 rw [iJ (cj m r) q, hk, filt_lt, filt_gt]
 exact ie h.sorted hq (by rw [hk]; exact cP _)
theorem del_put {c : List Bool} {m : au} (h : TabI c m) {r : List Val} (hr : bC c r = true) (hno : aX m (aH r) = none) : du (cj m r) (aH r) = m := by
 have hk : ak (aH r) = true := by obtain ⟨k, _, e, hk, _⟩ := dM hr; rw [e]; exact hk
 have hne : ∀ q ∈ m, ai (aH q) (aH r) ≠ 0 := fun q hq h0 => by
  have e := i7 (h.keys q hq) hk h0
  have := ez.2 ⟨q, hq, e⟩
  rw [hno] at this
  cases this
 unfold du
 rw [iJ, List.filter_append, List.filter_cons]
 have e1 : (!decide (ai (aH r) (aH r) = 0)) = false := by rw [cP]; rfl
 rw [e1]
 simp only [Bool.false_eq_true, if_false]
 have f1 : ∀ p : List Val → Bool, (m.filter p).filter (fun q => !decide (ai (aH q) (aH r) = 0)) = m.filter p := fun p => List.filter_eq_self.2 (fun q hq => by simpa using hne q (List.mem_filter.1 hq).1)
 rw [f1, f1]
 exact kz h.sorted hne
theorem nS (m : au) (k : Val) : (du m k).filter (ltR k) = m.filter (ltR k) ∧ (du m k).filter (gtR k) = m.filter (gtR k) := by
 unfold du
 rw [List.filter_filter, List.filter_filter]
 refine ⟨List.filter_congr fun q _ => ?_, List.filter_congr fun q _ => ?_⟩
 ·unfold ltR
  by_cases h : ai (aH q) k < 0
  ·rw [decide_eq_true h, decide_eq_false (show ¬ ai (aH q) k = 0 by omega)]; rfl
  ·rw [decide_eq_false h]; rfl
 ·unfold gtR
  by_cases h : 0 < ai (aH q) k
  ·rw [decide_eq_true h, decide_eq_false (show ¬ ai (aH q) k = 0 by omega)]; rfl
  ·rw [decide_eq_false h]; rfl
theorem put_del {c : List Bool} {m : au} (h : TabI c m) {q : List Val} (hq : q ∈ m) : cj (du m (aH q)) q = m := by
 rw [iJ, (nS m (aH q)).1, (nS m (aH q)).2]
 exact ie h.sorted hq (cP _)
theorem rq {α : Type} {l : List α} {i : Nat} {a : α} (h : l[i]? = some a) (b : α) : (l.set i b).set i a = l := by
 rw [List.set_set]
 refine List.ext_getElem? fun j => ?_
 by_cases hj : i = j
 ·subst hj
  rw [List.getElem?_set_self (List.getElem?_eq_some_iff.1 h).1, h]
 ·rw [List.getElem?_set_ne hj]
theorem mC {c : List Bool} {r : List Val} (h : bC c r = true) : r.isEmpty = false := by
 obtain ⟨k, h0, _⟩ := dM h
 cases r with
 | nil => cases h0
 | cons a r => rfl
theorem l7 {T : List au} {i : Nat} {m m' : au} (hm : T[i]? = some m) {k : Val} {q : List Val} (h : (if q.isEmpty then du m' k else cj m' q) = m) : gv (T.set i m') ⟨(i : Int), k, q⟩ = T := by
 have hlt := (List.getElem?_eq_some_iff.1 hm).1
 unfold gv
 simp only [Int.toNat_natCast]
 rw [List.getD_eq_getElem?_getD, List.getElem?_set_self hlt, Option.getD_some, h]
 exact rq hm m'
theorem sB {T : List au} {i : Nat} {c : List Bool} {m : au} {r : List Val} (hm : T[i]? = some m) (hI : TabI c m) (hr : bC c r = true) : gv (T.set i (cj m r)) ⟨(i : Int), aH r, (aX m (aH r)).getD []⟩ = T := by
 refine l7 hm ?_
 cases hf : aX m (aH r) with
 | none => exact del_put hI hr hf
 | some q =>
  obtain ⟨hq, hk⟩ := dJ hf
  rw [Option.getD_some, mC (hI.fits q hq)]
  exact put_put hI hq hk
theorem rP {T : List au} {i : Nat} {c : List Bool} {m : au} {k : Val} (hm : T[i]? = some m) (hI : TabI c m) (hf : (aX m k).isSome = true) : gv (T.set i (du m k)) ⟨(i : Int), k, (aX m k).getD []⟩ = T := by
 refine l7 hm ?_
 cases hq : aX m k with
 | none => rw [hq] at hf; cases hf
 | some q =>
  obtain ⟨h1, h2⟩ := dJ hq
  rw [Option.getD_some, mC (hI.fits q h1), ← h2]
  exact put_del hI h1
def Well (cols : List (List Bool)) (T : List au) : Prop := T.length = cols.length ∧ ∀ (i : Nat) (c : List Bool) (m : au), cols[i]? = some c → T[i]? = some m → TabI c m ∧ m.length ≤ 200
def BefI (cols : List (List Bool)) (b : BefM) : Prop := ∃ (i : Nat) (c : List Bool), b.table = (i : Int) ∧ cols[i]? = some c ∧ ak b.key = true ∧ (b.r = [] ∨ (bC c b.r = true ∧ bN b.r ∧ aH b.r = b.key))
inductive LogI (cols : List (List Bool)) : List au → List BefM → Prop where
 | nil {T : List au} (h : Well cols T) : LogI cols T []
 | cons {T : List au} {b : BefM} {l : List BefM} (h : Well cols T) (hb : BefI cols b) (t : LogI cols (gv T b) l) : LogI cols T (b :: l)
theorem LogI.well {cols : List (List Bool)} {T : List au} {l : List BefM} (h : LogI cols T l) : Well cols T := by cases h <;> assumption
end Go.Proofs.YtdobimafhbfkhaaGreat
namespace Go.Proofs.YtdobimafhbfkhaaGreat
open Go.ChangeShapes Go.WideShapes Go.ChangeAt Go.RowKit
set_option maxRecDepth 100000
set_option linter.unusedSimpArgs false
theorem na {w : World} {v : Value} {xs : List (PredE)} {F : Nat} {caps : Array Value} (p : PredE → Bool) (hrd : Rd w 9 v xs.length (xs.flatMap PredE.cells)) (HF : ∀ x ∈ xs, PredF F caps w (PredE.cells x) (p x)) :
  Calls Tryz.prog 104 #[v, .func (.func F) #[] caps] w fun e w' => e = .returned (.int .i64 (mM p xs)) ∧ Kept (fun _ => False) w w' := by
 obtain ⟨_, hml, ao, cap, rfl, hnc, hcm, _⟩ := id hrd
 unfold maxLen at hml hcm
 have sU := Bb hrd
 have vb := Bb HF
 clear hrd HF
 obtain ⟨N, hN⟩ : ∃ N, xs.length = N := ⟨_, rfl⟩
 have HN := Bb hN
 rw [hN] at sU hml hnc ⊢
 clear hN
 go_enter Tryz.func104, Tryz.ntmps104
 go_wp2_with fail
 go_loopw [8] (fun i wr => ∃ j : Nat, i = .int .i64 j ∧ j ≤ N ∧ (∀ x ∈ xs.take j, p x = false) ∧ Kept (fun _ => False) w wr) (fun i _ => N - (intOf i).toNat)
 case atStart => exact ⟨0, rfl, by omega, fun x hx => by simp at hx, Kept.refl _ _⟩
 case round =>
  obtain ⟨j, rfl, hj, hp, hk⟩ := hrel
  have HP := Bb hp
  have HK := Bb hk
  clear hp hk
  by_cases hlt : j < N
  ·have hi : (j : Int) < (N : Int) := by omega
   obtain ⟨x, hx⟩ : ∃ x, xs[j]? = some x := ⟨xs[j]'(by rw [HN.out]; exact hlt), List.getElem?_eq_getElem _⟩
   obtain ⟨g, o, rfl, hrng⟩ := cq PredE.len (sU.out.kept HK.out (fun _ _ h => h)) hx HN.out
   have HL := Bb (dF hrng)
   have HX := Bb hx
   obtain ⟨hent, hcall⟩ := vb.out x (List.mem_of_getElem? hx)
   unfold Enters at hent
   have HC := Bb (hcall wr HK.out)
   clear hx hrng hcall
   cases hpx : p x
   ·rw [hpx] at HC
    have zJ := Bb hpx
    clear hpx
    go_wp2_with (first | (refine bG rfl _ _ rfl _ _ rfl _ HL.out ?_) | (refine HC.out.mono ?_; rintro e1 w1 ⟨rfl, hk1⟩; have sQ := Bb (HK.out.trans hk1 (fun _ h => h.elim)); clear hk1 HC HL))
    go_roundw
    case rel => exact ⟨j + 1, by go_num, by omega, kU HP.out HX.out zJ.out, sQ.out⟩
    case measure => simp [intOf]; omega
   ·rw [hpx] at HC
    have zJ := Bb hpx
    clear hpx
    go_wp2_with (first | (refine bG rfl _ _ rfl _ _ rfl _ HL.out ?_) | (refine HC.out.mono ?_; rintro e1 w1 ⟨rfl, hk1⟩; have sQ := Bb (HK.out.trans hk1 (fun _ h => h.elim)); clear hk1 HC HL))
    go_ret
    exact ⟨by rw [idxI_at HP.out HX.out zJ.out]; rfl, sQ.out⟩
  ·have hi : ¬ ((j : Int) < (N : Int)) := by omega
   have he : mM p xs = -1 := qs (by have := HP.out; rwa [List.take_of_length_le (by rw [HN.out]; omega)] at this)
   have HE := Bb he
   clear he
   go_wp2_with fail
   go_ret
   exact ⟨by rw [HE.out]; rfl, HK.out⟩
theorem fX {w : World} {v : Value} {xs : List (PredE)} {F : Nat} {caps : Array Value} (p : PredE → Bool) (hrd : Rd w 9 v xs.length (xs.flatMap PredE.cells)) (HF : ∀ x ∈ xs, PredF F caps w (PredE.cells x) (p x)) :
  Calls Tryz.prog 88 #[v, .func (.func F) #[] caps] w fun e w' => e = .returned (.bool (xs.any p)) ∧ Kept (fun _ => False) w w' := by
 have H := Bb (na p hrd HF)
 rw [← sF]
 clear hrd HF
 generalize mM p xs = k at *
 go_enter Tryz.func88, Tryz.ntmps88
 go_wp2_with (go_at_call 104; refine H.out.mono ?_; rintro e1 w1 ⟨rfl, hk1⟩; have sQ := Bb hk1; clear hk1 H)
 go_ret
 exact ⟨rfl, sQ.out⟩
theorem io {w : World} {g o N cap h : Nat} {r : List Val} {x : Val} (hrd : Rd w 3 (.slice (some ⟨g, o, none⟩) N cap) N (r.flatMap Val.cells)) (hx : r[h]? = some x) :
  w.cell? ⟨g, o + h * 3, none⟩ = some (.bool x.t) ∧ w.cell? ⟨g, o + h * 3 + 1, none⟩ = some (.int .i64 x.n) ∧ w.cell? ⟨g, o + h * 3 + 2, none⟩ = some (.string x.s) := by
 have hlt := (List.getElem?_eq_some_iff.1 hx).1
 rcases hrd.2.2 with ⟨_, _, hv, _, _, _, hcell⟩
 cases hv
 rcases hcell with h0 | ⟨_, _, hg, hc⟩
 ·have := hrd.1
  rw [bW Val.len] at this
  omega
 cases hg
 have a0 := hc _ _ (bM Val.len r h _ hx 0 _ rfl)
 have a1 := hc _ _ (bM Val.len r h _ hx 1 _ rfl)
 have a2 := hc _ _ (bM Val.len r h _ hx 2 _ rfl)
 rw [Nat.add_zero] at a0
 rw [← Nat.add_assoc] at a1 a2
 exact ⟨a0, a1, a2⟩
theorem qU {w : World} (x : PredE) {rv : Value} {r : List Val} (hr : fd w rv r) : Calls Tryz.prog 87 #[.agg x.cells.toArray, rv] w fun e w' => e = .returned (.bool (fT x.op x.col x.v x.w r)) ∧ Kept (fun _ => False) w w' := by
 obtain ⟨W1, hW1, hk1, hb1⟩ : ∃ W, W = w.alloc (.cells x.cells.toArray tPr) ∧ Kept (fun _ => False) w W ∧ W.heap[w.heap.size]? = some (.cells x.cells.toArray tPr (0, 0)) := ⟨_, rfl, (Kept.refl _ _).alloc _, aw _ _⟩
 have sU := Bb (hr.kept hk1 (fun _ _ h => h))
 obtain ⟨_, hml, ra, rc, rfl, hnc, hcm, _⟩ := id hr
 unfold maxLen at hml hcm
 have sL := Bb hW1
 have sQ := Bb hk1
 have sM := Bb hb1
 clear hr hW1 hk1 hb1
 by_cases c1 : x.col < 0
 ·have HR := Bb (show fT x.op x.col x.v x.w r = false by unfold fT; rw [if_pos (.inl c1)])
  go_enter Tryz.func87, Tryz.ntmps87
  go_upto_region 1 with fail
  rw [← sL.out]
  clear sL
  generalize w.heap.size = b1 at sM ⊢
  obtain ⟨x0, x1, x2, x3, x4, x5, x6, x7, x8⟩ := be sM.out
  go_wp2_with fail
  go_ret
  exact ⟨by rw [HR.out]; rfl, sQ.out⟩
 by_cases c2 : (r.length : Int) ≤ x.col
 ·have HR := Bb (show fT x.op x.col x.v x.w r = false by unfold fT; rw [if_pos (.inr c2)])
  have c2' : x.col ≥ (r.length : Int) := c2
  go_enter Tryz.func87, Tryz.ntmps87
  go_upto_region 1 with fail
  rw [← sL.out]
  clear sL
  generalize w.heap.size = b1 at sM ⊢
  obtain ⟨x0, x1, x2, x3, x4, x5, x6, x7, x8⟩ := be sM.out
  go_wp2_with fail
  go_ret
  exact ⟨by rw [HR.out]; rfl, sQ.out⟩
 obtain ⟨k, hk⟩ : ∃ k : Nat, x.col = (k : Int) := ⟨x.col.toNat, by omega⟩
 have hkl : k < r.length := by omega
 have hkl2 : (k : Int) < (r.length : Int) := by omega
 have hkn : ¬ ((k : Int) ≥ (r.length : Int)) := by omega
 obtain ⟨y, hy⟩ : ∃ y, r[k]? = some y := ⟨r[k], List.getElem?_eq_getElem hkl⟩
 obtain ⟨g, og, rfl⟩ : ∃ g o, ra = some ⟨g, o, none⟩ := by
  rcases sU.out.2.2 with ⟨_, _, hv, _, _, _, hc⟩
  cases hv
  rcases hc with h0 | ⟨g, o, h, _⟩
  ·omega
  ·exact ⟨g, o, h⟩
 have tU := Bb hk
 have HY := Bb hy
 obtain ⟨c, hc⟩ : ∃ c, ai y x.v = c := ⟨_, rfl⟩
 have wm := Bb hc
 have tn := Bb (show fT x.op x.col x.v x.w r = (if x.op = 3 then decide (c = 0) else if x.op = 4 then !decide (c = 0) else if x.op = 5 then decide (c < 0) else if x.op = 6 then decide (c ≤ 0) else if x.op = 7 then decide (0 < c) else if x.op = 8 then decide (0 ≤ c) else decide (0 ≤ c) && decide (ai y x.w ≤ 0)) by
  unfold fT
  rw [if_neg (by omega)]
  have : r.getD x.col.toNat default = y := by rw [hk, Int.toNat_natCast, List.getD_eq_getElem?_getD, hy]; rfl
  simp only [this, hc])
 clear c1 c2 hk hy hc hkl
 by_cases p3 : x.op = 3
 ·have HO := Bb p3
  clear p3
  go_enter Tryz.func87, Tryz.ntmps87
  go_upto_region 1 with fail
  rw [← sL.out]
  clear sL
  generalize w.heap.size = b1 at sM ⊢
  obtain ⟨x0, x1, x2, x3, x4, x5, x6, x7, x8⟩ := be sM.out
  rw [tU.out] at x1
  obtain ⟨y0, y1, y2⟩ := io sU.out HY.out
  go_upto_region 3 with fail
  have sZ := Bb (bH y x.v W1.drew)
  rw [wm.out] at sZ
  refine af [(0, false, 7), (1, false, 7), (2, false, 7), (3, false, 7), (4, false, 7), (5, false, 7), (6, false, 7), (7, true, 0), (8, false, 999)] (by kernel_rfl) (by kernel_rfl) ?_
  iterate 7 (refine ae rfl rfl (fun K hK => ?_); go_simp; refine hK _ ?_; clear hK K)
  refine ag rfl ?_
  refine am rfl (fun K hK => ?_)
  go_simp
  refine sZ.out.mono ?_
  rintro e2 w2 ⟨rfl, hk2⟩
  have sY := Bb (sQ.out.drew.trans hk2 (fun _ h => h.elim))
  have sN := Bb ((hk2.block b1 (av (by exact sM.out : W1.drew.heap[b1]? = _)) (fun h => h)).trans sM.out)
  have u6 := Bb (sU.out.drew.kept hk2 (fun _ _ h => h))
  clear hk2 sZ x0 x1 x2 x3 x4 x5 x6 x7 x8 y0 y1 y2
  obtain ⟨x0, x1, x2, x3, x4, x5, x6, x7, x8⟩ := be sN.out
  rw [tU.out] at x1
  refine hK _ _ ?_
  clear hK K
  refine wpList_nil ?_
  refine And.intro ?_ ?_
  ·go_simp
  refine ae rfl rfl (fun K hK => ?_); go_simp; refine hK _ ?_; clear hK K
  refine ah ?_
  rw [HO.out] at x0
  go_wp2_with fail
  go_ret
  exact ⟨by rw [tn.out, HO.out]; simp [bne, Int.not_lt, beq_iff_eq]; try rfl, sY.out⟩
 by_cases p4 : x.op = 4
 ·have HO := Bb p4
  clear p3 p4
  go_enter Tryz.func87, Tryz.ntmps87
  go_upto_region 1 with fail
  rw [← sL.out]
  clear sL
  generalize w.heap.size = b1 at sM ⊢
  obtain ⟨x0, x1, x2, x3, x4, x5, x6, x7, x8⟩ := be sM.out
  rw [tU.out] at x1
  obtain ⟨y0, y1, y2⟩ := io sU.out HY.out
  go_upto_region 3 with fail
  have sZ := Bb (bH y x.v W1.drew)
  rw [wm.out] at sZ
  refine af [(0, false, 7), (1, false, 7), (2, false, 7), (3, false, 7), (4, false, 7), (5, false, 7), (6, false, 7), (7, true, 0), (8, false, 999)] (by kernel_rfl) (by kernel_rfl) ?_
  iterate 7 (refine ae rfl rfl (fun K hK => ?_); go_simp; refine hK _ ?_; clear hK K)
  refine ag rfl ?_
  refine am rfl (fun K hK => ?_)
  go_simp
  refine sZ.out.mono ?_
  rintro e2 w2 ⟨rfl, hk2⟩
  have sY := Bb (sQ.out.drew.trans hk2 (fun _ h => h.elim))
  have sN := Bb ((hk2.block b1 (av (by exact sM.out : W1.drew.heap[b1]? = _)) (fun h => h)).trans sM.out)
  have u6 := Bb (sU.out.drew.kept hk2 (fun _ _ h => h))
  clear hk2 sZ x0 x1 x2 x3 x4 x5 x6 x7 x8 y0 y1 y2
  obtain ⟨x0, x1, x2, x3, x4, x5, x6, x7, x8⟩ := be sN.out
  rw [tU.out] at x1
  refine hK _ _ ?_
  clear hK K
  refine wpList_nil ?_
  refine And.intro ?_ ?_
  ·go_simp
  refine ae rfl rfl (fun K hK => ?_); go_simp; refine hK _ ?_; clear hK K
  refine ah ?_
  rw [HO.out] at x0
  go_wp2_with fail
  go_ret
  exact ⟨by rw [tn.out, HO.out]; simp [bne, Int.not_lt, beq_iff_eq]; try rfl, sY.out⟩
 by_cases p5 : x.op = 5
 ·have HO := Bb p5
  clear p3 p4 p5
  go_enter Tryz.func87, Tryz.ntmps87
  go_upto_region 1 with fail
  rw [← sL.out]
  clear sL
  generalize w.heap.size = b1 at sM ⊢
  obtain ⟨x0, x1, x2, x3, x4, x5, x6, x7, x8⟩ := be sM.out
  rw [tU.out] at x1
  obtain ⟨y0, y1, y2⟩ := io sU.out HY.out
  go_upto_region 3 with fail
  have sZ := Bb (bH y x.v W1.drew)
  rw [wm.out] at sZ
  refine af [(0, false, 7), (1, false, 7), (2, false, 7), (3, false, 7), (4, false, 7), (5, false, 7), (6, false, 7), (7, true, 0), (8, false, 999)] (by kernel_rfl) (by kernel_rfl) ?_
  iterate 7 (refine ae rfl rfl (fun K hK => ?_); go_simp; refine hK _ ?_; clear hK K)
  refine ag rfl ?_
  refine am rfl (fun K hK => ?_)
  go_simp
  refine sZ.out.mono ?_
  rintro e2 w2 ⟨rfl, hk2⟩
  have sY := Bb (sQ.out.drew.trans hk2 (fun _ h => h.elim))
  have sN := Bb ((hk2.block b1 (av (by exact sM.out : W1.drew.heap[b1]? = _)) (fun h => h)).trans sM.out)
  have u6 := Bb (sU.out.drew.kept hk2 (fun _ _ h => h))
  clear hk2 sZ x0 x1 x2 x3 x4 x5 x6 x7 x8 y0 y1 y2
  obtain ⟨x0, x1, x2, x3, x4, x5, x6, x7, x8⟩ := be sN.out
  rw [tU.out] at x1
  refine hK _ _ ?_
  clear hK K
  refine wpList_nil ?_
  refine And.intro ?_ ?_
  ·go_simp
  refine ae rfl rfl (fun K hK => ?_); go_simp; refine hK _ ?_; clear hK K
  refine ah ?_
  rw [HO.out] at x0
  go_wp2_with fail
  go_ret
  exact ⟨by rw [tn.out, HO.out]; simp [bne, Int.not_lt, beq_iff_eq]; try rfl, sY.out⟩
 by_cases p6 : x.op = 6
 ·have HO := Bb p6
  clear p3 p4 p5 p6
  go_enter Tryz.func87, Tryz.ntmps87
  go_upto_region 1 with fail
  rw [← sL.out]
  clear sL
  generalize w.heap.size = b1 at sM ⊢
  obtain ⟨x0, x1, x2, x3, x4, x5, x6, x7, x8⟩ := be sM.out
  rw [tU.out] at x1
  obtain ⟨y0, y1, y2⟩ := io sU.out HY.out
  go_upto_region 3 with fail
  have sZ := Bb (bH y x.v W1.drew)
  rw [wm.out] at sZ
  refine af [(0, false, 7), (1, false, 7), (2, false, 7), (3, false, 7), (4, false, 7), (5, false, 7), (6, false, 7), (7, true, 0), (8, false, 999)] (by kernel_rfl) (by kernel_rfl) ?_
  iterate 7 (refine ae rfl rfl (fun K hK => ?_); go_simp; refine hK _ ?_; clear hK K)
  refine ag rfl ?_
  refine am rfl (fun K hK => ?_)
  go_simp
  refine sZ.out.mono ?_
  rintro e2 w2 ⟨rfl, hk2⟩
  have sY := Bb (sQ.out.drew.trans hk2 (fun _ h => h.elim))
  have sN := Bb ((hk2.block b1 (av (by exact sM.out : W1.drew.heap[b1]? = _)) (fun h => h)).trans sM.out)
  have u6 := Bb (sU.out.drew.kept hk2 (fun _ _ h => h))
  clear hk2 sZ x0 x1 x2 x3 x4 x5 x6 x7 x8 y0 y1 y2
  obtain ⟨x0, x1, x2, x3, x4, x5, x6, x7, x8⟩ := be sN.out
  rw [tU.out] at x1
  refine hK _ _ ?_
  clear hK K
  refine wpList_nil ?_
  refine And.intro ?_ ?_
  ·go_simp
  refine ae rfl rfl (fun K hK => ?_); go_simp; refine hK _ ?_; clear hK K
  refine ah ?_
  rw [HO.out] at x0
  go_wp2_with fail
  go_ret
  exact ⟨by rw [tn.out, HO.out]; simp [bne, Int.not_lt, beq_iff_eq]; try rfl, sY.out⟩
 by_cases p7 : x.op = 7
 ·have HO := Bb p7
  clear p3 p4 p5 p6 p7
  go_enter Tryz.func87, Tryz.ntmps87
  go_upto_region 1 with fail
  rw [← sL.out]
  clear sL
  generalize w.heap.size = b1 at sM ⊢
  obtain ⟨x0, x1, x2, x3, x4, x5, x6, x7, x8⟩ := be sM.out
  rw [tU.out] at x1
  obtain ⟨y0, y1, y2⟩ := io sU.out HY.out
  go_upto_region 3 with fail
  have sZ := Bb (bH y x.v W1.drew)
  rw [wm.out] at sZ
  refine af [(0, false, 7), (1, false, 7), (2, false, 7), (3, false, 7), (4, false, 7), (5, false, 7), (6, false, 7), (7, true, 0), (8, false, 999)] (by kernel_rfl) (by kernel_rfl) ?_
  iterate 7 (refine ae rfl rfl (fun K hK => ?_); go_simp; refine hK _ ?_; clear hK K)
  refine ag rfl ?_
  refine am rfl (fun K hK => ?_)
  go_simp
  refine sZ.out.mono ?_
  rintro e2 w2 ⟨rfl, hk2⟩
  have sY := Bb (sQ.out.drew.trans hk2 (fun _ h => h.elim))
  have sN := Bb ((hk2.block b1 (av (by exact sM.out : W1.drew.heap[b1]? = _)) (fun h => h)).trans sM.out)
  have u6 := Bb (sU.out.drew.kept hk2 (fun _ _ h => h))
  clear hk2 sZ x0 x1 x2 x3 x4 x5 x6 x7 x8 y0 y1 y2
  obtain ⟨x0, x1, x2, x3, x4, x5, x6, x7, x8⟩ := be sN.out
  rw [tU.out] at x1
  refine hK _ _ ?_
  clear hK K
  refine wpList_nil ?_
  refine And.intro ?_ ?_
  ·go_simp
  refine ae rfl rfl (fun K hK => ?_); go_simp; refine hK _ ?_; clear hK K
  refine ah ?_
  rw [HO.out] at x0
  go_wp2_with fail
  go_ret
  exact ⟨by rw [tn.out, HO.out]; simp [bne, Int.not_lt, beq_iff_eq]; try rfl, sY.out⟩
 by_cases p8 : x.op = 8
 ·have HO := Bb p8
  clear p3 p4 p5 p6 p7 p8
  go_enter Tryz.func87, Tryz.ntmps87
  go_upto_region 1 with fail
  rw [← sL.out]
  clear sL
  generalize w.heap.size = b1 at sM ⊢
  obtain ⟨x0, x1, x2, x3, x4, x5, x6, x7, x8⟩ := be sM.out
  rw [tU.out] at x1
  obtain ⟨y0, y1, y2⟩ := io sU.out HY.out
  go_upto_region 3 with fail
  have sZ := Bb (bH y x.v W1.drew)
  rw [wm.out] at sZ
  refine af [(0, false, 7), (1, false, 7), (2, false, 7), (3, false, 7), (4, false, 7), (5, false, 7), (6, false, 7), (7, true, 0), (8, false, 999)] (by kernel_rfl) (by kernel_rfl) ?_
  iterate 7 (refine ae rfl rfl (fun K hK => ?_); go_simp; refine hK _ ?_; clear hK K)
  refine ag rfl ?_
  refine am rfl (fun K hK => ?_)
  go_simp
  refine sZ.out.mono ?_
  rintro e2 w2 ⟨rfl, hk2⟩
  have sY := Bb (sQ.out.drew.trans hk2 (fun _ h => h.elim))
  have sN := Bb ((hk2.block b1 (av (by exact sM.out : W1.drew.heap[b1]? = _)) (fun h => h)).trans sM.out)
  have u6 := Bb (sU.out.drew.kept hk2 (fun _ _ h => h))
  clear hk2 sZ x0 x1 x2 x3 x4 x5 x6 x7 x8 y0 y1 y2
  obtain ⟨x0, x1, x2, x3, x4, x5, x6, x7, x8⟩ := be sN.out
  rw [tU.out] at x1
  refine hK _ _ ?_
  clear hK K
  refine wpList_nil ?_
  refine And.intro ?_ ?_
  ·go_simp
  refine ae rfl rfl (fun K hK => ?_); go_simp; refine hK _ ?_; clear hK K
  refine ah ?_
  rw [HO.out] at x0
  go_wp2_with fail
  go_ret
  exact ⟨by rw [tn.out, HO.out]; simp [bne, Int.not_lt, beq_iff_eq]; try rfl, sY.out⟩
 have n3 : (x.op == 3) = false := by simpa using p3
 have n4 : (x.op == 4) = false := by simpa using p4
 have n5 : (x.op == 5) = false := by simpa using p5
 have n6 : (x.op == 6) = false := by simpa using p6
 have n7 : (x.op == 7) = false := by simpa using p7
 have n8 : (x.op == 8) = false := by simpa using p8
 have HR := Bb (show fT x.op x.col x.v x.w r = (decide (0 ≤ c) && decide (ai y x.w ≤ 0)) by rw [tn.out, if_neg p3, if_neg p4, if_neg p5, if_neg p6, if_neg p7, if_neg p8])
 clear p3 p4 p5 p6 p7 p8
 by_cases hc0 : 0 ≤ c
 ·have hc1 : c ≥ 0 := hc0
  go_enter Tryz.func87, Tryz.ntmps87
  go_upto_region 1 with fail
  rw [← sL.out]
  clear sL
  generalize w.heap.size = b1 at sM ⊢
  obtain ⟨x0, x1, x2, x3, x4, x5, x6, x7, x8⟩ := be sM.out
  rw [tU.out] at x1
  obtain ⟨y0, y1, y2⟩ := io sU.out HY.out
  go_upto_region 3 with fail
  have sZ := Bb (bH y x.v W1.drew)
  rw [wm.out] at sZ
  refine af [(0, false, 7), (1, false, 7), (2, false, 7), (3, false, 7), (4, false, 7), (5, false, 7), (6, false, 7), (7, true, 0), (8, false, 999)] (by kernel_rfl) (by kernel_rfl) ?_
  iterate 7 (refine ae rfl rfl (fun K hK => ?_); go_simp; refine hK _ ?_; clear hK K)
  refine ag rfl ?_
  refine am rfl (fun K hK => ?_)
  go_simp
  refine sZ.out.mono ?_
  rintro e2 w2 ⟨rfl, hk2⟩
  have sY := Bb (sQ.out.drew.trans hk2 (fun _ h => h.elim))
  have sN := Bb ((hk2.block b1 (av (by exact sM.out : W1.drew.heap[b1]? = _)) (fun h => h)).trans sM.out)
  have u6 := Bb (sU.out.drew.kept hk2 (fun _ _ h => h))
  clear hk2 sZ x0 x1 x2 x3 x4 x5 x6 x7 x8 y0 y1 y2
  obtain ⟨x0, x1, x2, x3, x4, x5, x6, x7, x8⟩ := be sN.out
  rw [tU.out] at x1
  refine hK _ _ ?_
  clear hK K
  refine wpList_nil ?_
  refine And.intro ?_ ?_
  ·go_simp
  refine ae rfl rfl (fun K hK => ?_); go_simp; refine hK _ ?_; clear hK K
  refine ah ?_
  obtain ⟨y0, y1, y2⟩ := io u6.out HY.out
  go_upto_region 17 with fail
  obtain ⟨d, hd⟩ : ∃ d, ai y x.w = d := ⟨_, rfl⟩
  have Aj := Bb hd
  have xA := Bb (bH y x.w w2.drew)
  rw [Aj.out] at xA
  clear hd
  refine af [(0, false, 10), (1, false, 10), (2, false, 10), (3, false, 10), (4, false, 10), (5, false, 10), (6, false, 10), (7, false, 10), (8, false, 10), (9, false, 10), (10, true, 0), (11, false, 999), (12, false, 999), (13, false, 999)] (by kernel_rfl) (by kernel_rfl) ?_
  iterate 3 (refine ae rfl rfl (fun K hK => ?_); go_simp; refine hK _ ?_; clear hK K)
  iterate 7 (first | (refine ar rfl rfl ?_; simp only [Act.put, Bc, Bd, Be, Bf, Bg, Bh]) | (refine al rfl rfl (fun K hK => ?_); go_simp; refine hK _ ?_; clear hK K))
  refine ag rfl ?_
  refine am rfl (fun K hK => ?_)
  go_simp
  refine xA.out.mono ?_
  rintro e3 w3 ⟨rfl, hk3⟩
  have wj := Bb (sY.out.drew.trans hk3 (fun _ h => h.elim))
  clear hk3 xA
  refine hK _ _ ?_
  clear hK K
  refine wpList_nil ?_
  refine And.intro ?_ ?_
  ·go_simp
  first | (refine ar rfl rfl ?_; simp only [Act.put, Bc, Bd, Be, Bf, Bg, Bh]) | (refine al rfl rfl (fun K hK => ?_); go_simp; refine hK _ ?_; clear hK K)
  iterate 2 (refine ae rfl rfl (fun K hK => ?_); go_simp; refine hK _ ?_; clear hK K)
  refine ah ?_
  go_wp2_with fail
  go_ret
  exact ⟨by rw [HR.out, Aj.out]; simp [hc0], wj.out⟩
 ·have hc1 : ¬ c ≥ 0 := hc0
  go_enter Tryz.func87, Tryz.ntmps87
  go_upto_region 1 with fail
  rw [← sL.out]
  clear sL
  generalize w.heap.size = b1 at sM ⊢
  obtain ⟨x0, x1, x2, x3, x4, x5, x6, x7, x8⟩ := be sM.out
  rw [tU.out] at x1
  obtain ⟨y0, y1, y2⟩ := io sU.out HY.out
  go_upto_region 3 with fail
  have sZ := Bb (bH y x.v W1.drew)
  rw [wm.out] at sZ
  refine af [(0, false, 7), (1, false, 7), (2, false, 7), (3, false, 7), (4, false, 7), (5, false, 7), (6, false, 7), (7, true, 0), (8, false, 999)] (by kernel_rfl) (by kernel_rfl) ?_
  iterate 7 (refine ae rfl rfl (fun K hK => ?_); go_simp; refine hK _ ?_; clear hK K)
  refine ag rfl ?_
  refine am rfl (fun K hK => ?_)
  go_simp
  refine sZ.out.mono ?_
  rintro e2 w2 ⟨rfl, hk2⟩
  have sY := Bb (sQ.out.drew.trans hk2 (fun _ h => h.elim))
  have sN := Bb ((hk2.block b1 (av (by exact sM.out : W1.drew.heap[b1]? = _)) (fun h => h)).trans sM.out)
  have u6 := Bb (sU.out.drew.kept hk2 (fun _ _ h => h))
  clear hk2 sZ x0 x1 x2 x3 x4 x5 x6 x7 x8 y0 y1 y2
  obtain ⟨x0, x1, x2, x3, x4, x5, x6, x7, x8⟩ := be sN.out
  rw [tU.out] at x1
  refine hK _ _ ?_
  clear hK K
  refine wpList_nil ?_
  refine And.intro ?_ ?_
  ·go_simp
  refine ae rfl rfl (fun K hK => ?_); go_simp; refine hK _ ?_; clear hK K
  refine ah ?_
  go_upto_region 17 with fail
  refine af [(0, false, 10), (1, false, 10), (2, false, 10), (3, false, 10), (4, false, 10), (5, false, 10), (6, false, 10), (7, false, 10), (8, false, 10), (9, false, 10), (10, true, 0), (11, false, 999), (12, false, 999), (13, false, 999)] (by kernel_rfl) (by kernel_rfl) ?_
  iterate 3 (refine ae rfl rfl (fun K hK => ?_); go_simp; refine hK _ ?_; clear hK K)
  iterate 7 (first | (refine ar rfl rfl ?_; simp only [Act.put, Bc, Bd, Be, Bf, Bg, Bh]) | (refine al rfl rfl (fun K hK => ?_); go_simp; refine hK _ ?_; clear hK K))
  refine ag rfl ?_
  refine bQ rfl ?_
  simp only [Act.put, Bc, Bd, Be]
  refine wpList_nil ?_
  refine And.intro ?_ ?_
  ·go_simp
  first | (refine ar rfl rfl ?_; simp only [Act.put, Bc, Bd, Be, Bf, Bg, Bh]) | (refine al rfl rfl (fun K hK => ?_); go_simp; refine hK _ ?_; clear hK K)
  iterate 2 (refine ae rfl rfl (fun K hK => ?_); go_simp; refine hK _ ?_; clear hK K)
  refine ah ?_
  go_wp2_with fail
  go_ret
  exact ⟨by rw [HR.out, decide_eq_false (Int.not_le.mpr hc0)]; rfl, sY.out.drew⟩
end Go.Proofs.YtdobimafhbfkhaaGreat
