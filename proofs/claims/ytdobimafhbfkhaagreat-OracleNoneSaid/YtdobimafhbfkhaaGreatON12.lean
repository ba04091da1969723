/- Whether sets may be a table's (row.CheckSets). (printed by genok3.py) -/
import Derived.Test.YtdobimafhbfkhaaGreatON11
set_option maxHeartbeats 64000000
namespace Go.Proofs.YtdobimafhbfkhaaGreat
open Go.ChangeShapes Go.WideShapes Go.ChangeAt Go.RowKit
set_option maxRecDepth 100000
set_option linter.unusedSimpArgs false
abbrev tMet : TypeId := 115
abbrev SetsRd (w : World) (v : Value) (l : List SetM) : Prop := Rd w 7 v l.length (l.flatMap SetM.cells)
abbrev SetsAt (D : PH) (v : Value) (l : List SetM) : Prop := RdP D 7 v l.length (l.flatMap SetM.cells)
def eT (l : List SetM) (i : Nat) : Bool := decide ((i : Int) ∈ l.map SetM.col)
def fw (l : List SetM) : Array Value := #[.bool (eT l 0), .bool (eT l 1), .bool (eT l 2), .bool (eT l 3)]
theorem lE {c : List Bool} {s : SetM} (hm : cH c = true) (h : aU c s = true) : s.col = 1 ∨ s.col = 2 ∨ s.col = 3 := by
 have h4 : c.length ≤ 4 := by unfold cH at hm; simp at hm; exact hm.2
 unfold aU at h
 split at h
 ·cases h
 ·next hn =>
  have h1 : ¬ s.col < 1 := fun e => hn (.inl e)
  have h2 : ¬ ay c s.col = 0 := fun e => hn (.inr e)
  have h3 : ¬ (s.col < 0 ∨ (c.length : Int) ≤ s.col) := fun e => h2 (by unfold ay; rw [if_pos e])
  omega
theorem iT (l : List SetM) (s : SetM) (i : Nat) : eT (l ++ [s]) i = (eT l i || decide ((i : Int) = s.col)) := by
 unfold eT
 rw [List.map_append, Bool.eq_iff_iff]
 simp
theorem qd (l : List SetM) (s : SetM) : lX (l ++ [s]) = (lX l && !decide (s.col ∈ l.map SetM.col)) := by
 unfold lX
 rw [List.map_append, Bool.eq_iff_iff]
 simp only [decide_eq_true_eq, Bool.and_eq_true, Bool.not_eq_true', decide_eq_false_iff_not, List.nodup_append, List.map_cons, List.map_nil]
 constructor
 ·rintro ⟨h1, _, h2⟩
  exact ⟨h1, fun hm => h2 _ hm _ (List.mem_cons_self ..) rfl⟩
 ·rintro ⟨h1, h2⟩
  exact ⟨h1, by simp, fun a ha b hb e => by simp at hb; subst hb; subst e; exact h2 ha⟩
def eh (c : List Bool) (l : List SetM) : Bool := l.all (aU c) && lX l
theorem dp (c : List Bool) (l : List SetM) (s : SetM) : eh c (l ++ [s]) = (eh c l && (aU c s && !decide (s.col ∈ l.map SetM.col))) := by
 unfold eh
 rw [List.all_append, qd]
 simp only [List.all_cons, List.all_nil, Bool.and_true]
 cases l.all (aU c) <;> cases lX l <;> cases aU c s <;> simp
theorem ip (c : List Bool) : ∀ (m l : List SetM), eh c l = false → eh c (l ++ m) = false
 | [], l, h => by simpa using h
 | s :: m, l, h => by
  have : l ++ s :: m = (l ++ [s]) ++ m := by simp
  rw [this]
  exact ip c m _ (by rw [dp, h]; rfl)
theorem ph {c : List Bool} {l : List SetM} (n : Nat) (h : eh c (l.take n) = false) : eh c l = false := by
 have := ip c (l.drop n) _ h
 rwa [List.take_append_drop] at this
theorem nD {c : List Bool} {l : List SetM} (h1 : cH c = true) (h2 : l.length ≤ 3) : dd c l = eh c l := by
 unfold dd eh
 rw [h1, decide_eq_true h2]
 simp
theorem oR {l : List SetM} {s : SetM} (h : s.col = 1) : fw (l ++ [s]) = (fw l).setIfInBounds 1 (.bool true) := by unfold fw; simp [iT, h]
theorem oq {l : List SetM} {s : SetM} (h : s.col = 2) : fw (l ++ [s]) = (fw l).setIfInBounds 2 (.bool true) := by unfold fw; simp [iT, h]
theorem pn {l : List SetM} {s : SetM} (h : s.col = 3) : fw (l ++ [s]) = (fw l).setIfInBounds 3 (.bool true) := by unfold fw; simp [iT, h]
theorem ff {w : World} {b : Nat} {l : List SetM} {t : TypeId} (h : w.heap[b]? = some (.cells (fw l) t (0, 0))) :
  w.cell? ⟨b, 0, none⟩ = some (.bool (eT l 0)) ∧ w.cell? ⟨b, 1, none⟩ = some (.bool (eT l 1)) ∧ w.cell? ⟨b, 2, none⟩ = some (.bool (eT l 2)) ∧ w.cell? ⟨b, 3, none⟩ = some (.bool (eT l 3)) ∧ (∀ j, w.frozen? ⟨b, j, none⟩ = false) := fB h
def dU (c : List Bool) (l : List SetM) : Int := if cH c then (if dd c l then 0 else 20) else 1
theorem qu {c : List Bool} {l : List SetM} (h1 : cH c = true) (h2 : ¬ l.length ≤ 3) : dU c l = 20 := by
 unfold dU dd
 rw [h1, decide_eq_false h2]
 simp
theorem eG {c : List Bool} {l : List SetM} (h1 : cH c = true) (h2 : l.length ≤ 3) (n : Nat) (h : eh c (l.take n) = false) : dU c l = 20 := by
 unfold dU
 rw [nD h1 h2, ph n h, h1]
 simp
theorem nL {c : List Bool} {l : List SetM} (h1 : cH c = true) (h2 : l.length ≤ 3) (h : eh c l = true) : dU c l = 0 := by
 unfold dU
 rw [nD h1 h2, h, h1]
 simp
theorem fL {w : World} {cv sv : Value} {c : List Bool} {sets : List SetM} (hc : bu w cv c) (hr : SetsRd w sv sets) :
  Calls Tryz.prog 34 #[.agg #[cv], sv] w fun e w' => e = .returned (.int .i64 (dU c sets)) ∧ Kept (fun _ => False) w w' := by
 have hk1 : Kept (fun _ => False) w (w.alloc (.cells #[cv] bw)) := (Kept.refl _ _).alloc _
 have hb1 : (w.alloc (.cells #[cv] bw)).heap[w.heap.size]? = some (.cells #[cv] bw (0, 0)) := aw w _
 have HC := Bb (Rd.kept hc hk1 (fun _ _ h => h))
 have HR := Bb (Rd.kept hr hk1 (fun _ _ h => h))
 have sQ := Bb hk1
 have sM := Bb hb1
 have xO := Bb hc
 have zX := Bb (show Rd w 7 sv sets.length (sets.flatMap SetM.cells) from hr)
 obtain ⟨-, m2, ro, rcap, rfl, -⟩ := hr
 clear hk1 hb1 hc
 go_enter Tryz.func34, Tryz.ntmps34
 go_upto_region 1 with (fail)
 obtain ⟨W, hW⟩ : ∃ W, W = w.alloc (.cells #[cv] bw) := ⟨_, rfl⟩
 rw [← hW] at HC HR sQ sM ⊢
 generalize w.heap.size = bt at sM ⊢
 clear hW
 obtain ⟨b0, bf⟩ := aq sM.out
 have wi := Bb (eV HC.out)
 cases hm : cH c
 ·have HM := Bb (show chk c = 1 by simp [chk, hm])
  have HF := Bb (show dU c sets = 1 by simp [dU, hm])
  clear hm
  go_wp2_with ((go_at_call 31; refine wi.out.mono ?_; rw [HM.out]; rintro e1 w1 ⟨rfl, hk2⟩; have sY := Bb hk2; clear hk2 b0 bf))
  go_ret
  rw [HF.out]
  exact ⟨rfl, sQ.out.trans sY.out (fun _ h => h.elim)⟩
 have HM := Bb (show chk c = 0 by simp [chk, hm])
 have xa := Bb hm
 obtain ⟨N, hN⟩ : ∃ N, sets.length = N := ⟨_, rfl⟩
 unfold maxLen at m2
 rw [hN] at HR zX m2 ⊢
 have HN := Bb hN
 by_cases hl : N ≤ 3
 ·have HL := Bb (show sets.length ≤ 3 by omega)
  have hl2 : ¬ ((N : Int) > 3) := by omega
  clear hm hN
  go_upto_region 4 with ((go_at_call 31; refine wi.out.mono ?_; rw [HM.out]; rintro e1 w1 ⟨rfl, hk2⟩; have sY := Bb hk2; clear hk2 b0 bf))
  obtain ⟨W2, hW2, hk3, hb2⟩ : ∃ W, W = w1.alloc (.cells (fw []) tMet) ∧ Kept (fun _ => False) w1 W ∧ W.heap[w1.heap.size]? = some (.cells (fw []) tMet (0, 0)) := ⟨_, rfl, (Kept.refl _ _).alloc _, aw _ _⟩
  have wk := Bb (show w1.alloc (.cells #[.bool false, .bool false, .bool false, .bool false] tMet) = W2 from hW2.symm)
  have vd := Bb (show w.heap.size ≤ w1.heap.size from Nat.le_trans sQ.out.size sY.out.size)
  have wj := Bb ((sQ.out.trans sY.out (fun _ h => h.elim)).trans hk3 (fun _ h => h.elim))
  have hkw := sY.out.trans hk3 (fun _ h => h.elim)
  have zY := Bb (aj hkw sM.out)
  have zj := Bb hb2
  have xP := Bb (show bt ≠ w1.heap.size from Nat.ne_of_lt (Nat.lt_of_lt_of_le (av sM.out) sY.out.size))
  clear hW2 hk3 hb2 hkw HC HR sQ sY wi HM sM
  go_upto_region 7 with fail
  rw [wk.out]
  clear wk
  generalize hbm : w1.heap.size = bm at zj xP vd ⊢
  clear hbm
  go_wp2_with fail
  go_loopw [19] (fun idx wr => ∃ j : Nat, idx = .int .i64 j ∧ j ≤ N ∧ eh c (sets.take j) = true ∧ Kept (fun k => k = bm) W2 wr ∧ wr.heap[bm]? = some (.cells (fw (sets.take j)) tMet (0, 0))) (fun idx _ => N - (intOf idx).toNat)
  case atStart => exact ⟨0, rfl, Nat.zero_le _, rfl, Kept.refl _ _, zj.out⟩
  case round =>
   obtain ⟨j, rfl, hj, hno, hkr, hbr⟩ := hrel
   have wv := Bb hkr
   have xN := Bb (wj.out.trans hkr (fun k h => .inr (h ▸ vd.out)))
   have u9 := Bb hno
   have zk := Bb hbr
   clear hkr hno hbr zj
   by_cases hlt : j < N
   ·obtain ⟨x, hx⟩ : ∃ x, sets[j]? = some x := ⟨sets[j]'(by rw [HN.out]; exact hlt), List.getElem?_eq_getElem _⟩
    have HX := Bb (show sets.take (j + 1) = sets.take j ++ [x] by rw [List.take_add_one, hx]; rfl)
    obtain ⟨g1, o1, rfl, hr1⟩ := cq SetM.len (Rd.kept zX.out xN.out (fun _ _ h => h)) hx HN.out
    have xX := Bb (pG hr1)
    obtain ⟨W3, hW3, hk3, hb3⟩ : ∃ W, W = wr.alloc (.cells x.cells.toArray cB) ∧ Kept (fun _ => False) wr W ∧ W.heap[wr.heap.size]? = some (.cells x.cells.toArray cB (0, 0)) := ⟨_, rfl, (Kept.refl _ _).alloc _, aw _ _⟩
    have xY := Bb hW3
    have tA := Bb hb3
    have uC := Bb (aj hk3 zk.out)
    have tL := Bb (wv.out.trans hk3 (fun _ h => h.elim))
    have vQ := Bb (xN.out.trans hk3 (fun _ h => h.elim))
    have zl := Bb ((tL.out.block _ (av zY.out) xP.out).trans zY.out)
    have xZ := Bb (show bm ≠ wr.heap.size from Nat.ne_of_lt (av zk.out))
    have hib : (j : Int) < (N : Int) := by omega
    have HI := Bb hib
    clear hx hr1 hW3 hk3 hb3 zk wv
    go_upto_region 10 with (first | (refine bG rfl _ _ rfl _ _ rfl _ xX.out ?_) | (refine cN rfl _ _ _ rfl x.cells _ _ rfl rfl (by kernel_rfl) rfl (SetM.one x) ?_))
    rw [← xY.out]
    clear xY xX
    generalize wr.heap.size = bs at tA xZ ⊢
    have vR := Bb (pZ (Rd.kept xO.out vQ.out (fun _ _ h => h)) x)
    obtain ⟨b0, bf⟩ := aq zl.out
    obtain ⟨x0, x1, x2, x3, x4, x5, x6⟩ := az tA.out
    cases hy : aU c x
    ·rw [hy] at vR
     have HF := Bb (eG xa.out HL.out (j + 1) (by rw [HX.out, dp, hy]; simp))
     clear hy
     go_wp2_with (go_at_call 48; refine vR.out.mono ?_; rintro e4 w4 ⟨rfl, hk5⟩; have tF := Bb hk5; clear hk5 b0 bf x0 x1 x2 x3 x4 x5 x6)
     go_ret
     rw [HF.out]
     exact ⟨rfl, vQ.out.trans tF.out (fun _ h => h.elim)⟩
    ·rw [hy] at vR
     have HY := Bb hy
     obtain ⟨col, op, frm, oth, v⟩ := x
     have hcol := lE xa.out hy
     simp only at hcol
     clear hy
     rcases hcol with rfl | rfl | rfl
     ·cases hz : eT (sets.take j) 1
      ·have HZ := Bb hz
       have vb := Bb (show eh c (sets.take (j + 1)) = true by rw [HX.out, dp, u9.out, HY.out]; unfold eT at hz; simpa using hz)
       have x9 := Bb (show fw (sets.take (j + 1)) = (fw (sets.take j)).setIfInBounds 1 (.bool true) by rw [HX.out, oR rfl])
       clear hz
       go_wp2_with (go_at_call 48; refine vR.out.mono ?_; rintro e4 w4 ⟨rfl, hk5⟩; have tF := Bb hk5; clear hk5 b0 bf x0 x1 x2 x3 x4 x5 x6; obtain ⟨x0, x1, x2, x3, x4, x5, x6⟩ := az (aj tF.out tA.out); obtain ⟨z0, z1, z2, z3, zf⟩ := ff (aj tF.out uC.out); first | rw [HZ.out] at z1 | rw [HZ.out] at z2 | rw [HZ.out] at z3)
       go_roundw
       case rel => exact ⟨j + 1, by go_num, by omega, vb.out, ((tL.out.trans tF.out (fun _ h => h.elim)).setCell ⟨bm, 1, none⟩ _ (.inl rfl)), by rw [x9.out]; exact dE (aj tF.out uC.out) _⟩
       case measure => simp [intOf]; omega
      ·have HZ := Bb hz
       have HF := Bb (eG xa.out HL.out (j + 1) (by rw [HX.out, dp]; unfold eT at hz; have := of_decide_eq_true hz; simp at this ⊢; intros; simpa using this))
       clear hz
       go_wp2_with (go_at_call 48; refine vR.out.mono ?_; rintro e4 w4 ⟨rfl, hk5⟩; have tF := Bb hk5; clear hk5 b0 bf x0 x1 x2 x3 x4 x5 x6; obtain ⟨x0, x1, x2, x3, x4, x5, x6⟩ := az (aj tF.out tA.out); obtain ⟨z0, z1, z2, z3, zf⟩ := ff (aj tF.out uC.out); first | rw [HZ.out] at z1 | rw [HZ.out] at z2 | rw [HZ.out] at z3)
       go_ret
       rw [HF.out]
       exact ⟨rfl, vQ.out.trans tF.out (fun _ h => h.elim)⟩
     ·cases hz : eT (sets.take j) 2
      ·have HZ := Bb hz
       have vb := Bb (show eh c (sets.take (j + 1)) = true by rw [HX.out, dp, u9.out, HY.out]; unfold eT at hz; simpa using hz)
       have x9 := Bb (show fw (sets.take (j + 1)) = (fw (sets.take j)).setIfInBounds 2 (.bool true) by rw [HX.out, oq rfl])
       clear hz
       go_wp2_with (go_at_call 48; refine vR.out.mono ?_; rintro e4 w4 ⟨rfl, hk5⟩; have tF := Bb hk5; clear hk5 b0 bf x0 x1 x2 x3 x4 x5 x6; obtain ⟨x0, x1, x2, x3, x4, x5, x6⟩ := az (aj tF.out tA.out); obtain ⟨z0, z1, z2, z3, zf⟩ := ff (aj tF.out uC.out); first | rw [HZ.out] at z1 | rw [HZ.out] at z2 | rw [HZ.out] at z3)
       go_roundw
       case rel => exact ⟨j + 1, by go_num, by omega, vb.out, ((tL.out.trans tF.out (fun _ h => h.elim)).setCell ⟨bm, 2, none⟩ _ (.inl rfl)), by rw [x9.out]; exact dE (aj tF.out uC.out) _⟩
       case measure => simp [intOf]; omega
      ·have HZ := Bb hz
       have HF := Bb (eG xa.out HL.out (j + 1) (by rw [HX.out, dp]; unfold eT at hz; have := of_decide_eq_true hz; simp at this ⊢; intros; simpa using this))
       clear hz
       go_wp2_with (go_at_call 48; refine vR.out.mono ?_; rintro e4 w4 ⟨rfl, hk5⟩; have tF := Bb hk5; clear hk5 b0 bf x0 x1 x2 x3 x4 x5 x6; obtain ⟨x0, x1, x2, x3, x4, x5, x6⟩ := az (aj tF.out tA.out); obtain ⟨z0, z1, z2, z3, zf⟩ := ff (aj tF.out uC.out); first | rw [HZ.out] at z1 | rw [HZ.out] at z2 | rw [HZ.out] at z3)
       go_ret
       rw [HF.out]
       exact ⟨rfl, vQ.out.trans tF.out (fun _ h => h.elim)⟩
     ·cases hz : eT (sets.take j) 3
      ·have HZ := Bb hz
       have vb := Bb (show eh c (sets.take (j + 1)) = true by rw [HX.out, dp, u9.out, HY.out]; unfold eT at hz; simpa using hz)
       have x9 := Bb (show fw (sets.take (j + 1)) = (fw (sets.take j)).setIfInBounds 3 (.bool true) by rw [HX.out, pn rfl])
       clear hz
       go_wp2_with (go_at_call 48; refine vR.out.mono ?_; rintro e4 w4 ⟨rfl, hk5⟩; have tF := Bb hk5; clear hk5 b0 bf x0 x1 x2 x3 x4 x5 x6; obtain ⟨x0, x1, x2, x3, x4, x5, x6⟩ := az (aj tF.out tA.out); obtain ⟨z0, z1, z2, z3, zf⟩ := ff (aj tF.out uC.out); first | rw [HZ.out] at z1 | rw [HZ.out] at z2 | rw [HZ.out] at z3)
       go_roundw
       case rel => exact ⟨j + 1, by go_num, by omega, vb.out, ((tL.out.trans tF.out (fun _ h => h.elim)).setCell ⟨bm, 3, none⟩ _ (.inl rfl)), by rw [x9.out]; exact dE (aj tF.out uC.out) _⟩
       case measure => simp [intOf]; omega
      ·have HZ := Bb hz
       have HF := Bb (eG xa.out HL.out (j + 1) (by rw [HX.out, dp]; unfold eT at hz; have := of_decide_eq_true hz; simp at this ⊢; intros; simpa using this))
       clear hz
       go_wp2_with (go_at_call 48; refine vR.out.mono ?_; rintro e4 w4 ⟨rfl, hk5⟩; have tF := Bb hk5; clear hk5 b0 bf x0 x1 x2 x3 x4 x5 x6; obtain ⟨x0, x1, x2, x3, x4, x5, x6⟩ := az (aj tF.out tA.out); obtain ⟨z0, z1, z2, z3, zf⟩ := ff (aj tF.out uC.out); first | rw [HZ.out] at z1 | rw [HZ.out] at z2 | rw [HZ.out] at z3)
       go_ret
       rw [HF.out]
       exact ⟨rfl, vQ.out.trans tF.out (fun _ h => h.elim)⟩
   ·obtain rfl : j = N := by omega
    have HF := Bb (nL xa.out HL.out (show eh c sets = true by rw [← u9.out, List.take_of_length_le (Nat.le_of_eq HN.out)]))
    have hlt2 : ¬ (j : Int) < (j : Int) := by omega
    go_wp2_with fail
    go_ret
    rw [HF.out]
    exact ⟨rfl, wj.out.trans wv.out (fun k h => .inr (h ▸ vd.out))⟩
 ·have HL := Bb (show ¬ sets.length ≤ 3 by omega)
  have hl2 : (N : Int) > 3 := by omega
  clear hm hN
  go_wp2_with ((go_at_call 31; refine wi.out.mono ?_; rw [HM.out]; rintro e1 w1 ⟨rfl, hk2⟩; have sY := Bb hk2; clear hk2 b0 bf))
  go_ret
  rw [qu xa.out HL.out]
  exact ⟨rfl, sQ.out.trans sY.out (fun _ h => h.elim)⟩
end Go.Proofs.YtdobimafhbfkhaaGreat
