/- Joined texts: IndexFunc, ContainsFunc over rows; all of some rows; is a row one of some. Whether two claims are in conflict (claim.meets, claim.Conflict). (printed by genconf.py) -/
import Derived.Test.YtgljdkjepdknnaaGreatDoorMT7
import Derived.Test.YtgljdkjepdknnaaGreatDoorMT9
import Derived.Test.YtgljdkjepdknnaaGreatDoorMT5
set_option maxHeartbeats 64000000
namespace Go.Proofs.YtgljdkjepdknnaaGreatDoor
open Go.ChangeShapes Go.WideShapes Go.ChangeAt Go.RowKit
set_option maxRecDepth 100000
set_option linter.unusedSimpArgs false
def PredR (F : Nat) (caps : Array Value) (w : World) (r : List Val) (p : Bool) : Prop := Enters Tryz.prog F ∧ ∀ W hv, Kept (fun _ => False) w W → cO W hv r → Calls Tryz.prog F (#[hv] ++ caps) W fun e W' => e = .returned (.bool p) ∧ Kept (fun _ => False) W W'
theorem PredR.kept {F : Nat} {caps : Array Value} {w w' : World} {r : List Val} {p : Bool} (h : PredR F caps w r p) (k : Kept (fun _ => False) w w') : PredR F caps w' r p := ⟨h.1, fun W hv hW hr => h.2 W hv (k.trans hW (fun _ h => h.elim)) hr⟩
theorem eB {w : World} {ao : Option Addr} {N cap j : Nat} {rs : List (List Val)} {r : List Val} (h : RowsRd w (.slice ao N cap) rs) (hr : rs[j]? = some r) :
  ∃ g o ra rc, ao = some ⟨g, o, none⟩ ∧ w.cell? ⟨g, o + j, none⟩ = some (.slice ra r.length rc) ∧ cO w (.slice ra r.length rc) r ∧ r.length ≤ 9223372036854775807 ∧ r.length ≤ rc := by
 obtain ⟨hs, h1, h2, h3⟩ := h
 have hlt : j < rs.length := (List.getElem?_eq_some_iff.1 hr).1
 obtain ⟨hv, hhv⟩ : ∃ hv, hs[j]? = some hv := ⟨hs[j]'(by omega), List.getElem?_eq_getElem (by omega)⟩
 obtain ⟨_, _, ao', cap', hvv, _, _, _, hc⟩ := h2
 cases hvv
 have hrd := h3 j hv r hhv hr
 obtain ⟨_, hml, ra, rc, rfl, hrc, _⟩ := id hrd
 unfold maxLen at hml
 rcases hc with h0 | ⟨g, o, rfl, hc⟩
 ·omega
 ·exact ⟨g, o, ra, rc, rfl, hc j _ hhv, hrd, by omega, hrc⟩
theorem RowsRd.shape {w : World} {v : Value} {rs : List (List Val)} (h : RowsRd w v rs) : ∃ ao cap, v = .slice ao rs.length cap ∧ rs.length ≤ cap ∧ rs.length ≤ 9223372036854775807 ∧ cap ≤ 9223372036854775807 := by
 obtain ⟨hs, h1, h2, h3⟩ := h
 obtain ⟨_, hml, ao, cap, hv, hnc, hcm, _⟩ := h2
 unfold maxLen at hml hcm
 exact ⟨ao, cap, hv, hnc, by omega, by omega⟩
theorem nr {w : World} {v : Value} {xs : List (List Val)} {F : Nat} {caps : Array Value} (p : List Val → Bool) (hrd : RowsRd w v xs) (HF : ∀ x ∈ xs, PredR F caps w x (p x)) :
  Calls Tryz.prog 192 #[v, .func (.func F) #[] caps] w fun e w' => e = .returned (.int .i64 (cl p xs)) ∧ Kept (fun _ => False) w w' := by
 obtain ⟨ao, cap, rfl, hnc, hml, hcm⟩ := hrd.shape
 have s5 := BO hrd
 have t7 := BO HF
 clear hrd HF
 obtain ⟨N, hN⟩ : ∃ N, xs.length = N := ⟨_, rfl⟩
 have HN := BO hN
 rw [hN] at s5 hml hnc ⊢
 clear hN
 go_enter Tryz.func192, Tryz.ntmps192
 go_wp2_with fail
 go_loopw [8] (fun i wr => ∃ j : Nat, i = .int .i64 j ∧ j ≤ N ∧ (∀ x ∈ xs.take j, p x = false) ∧ Kept (fun _ => False) w wr) (fun i _ => N - (intOf i).toNat)
 case atStart => exact ⟨0, rfl, by omega, fun x hx => by simp at hx, Kept.refl _ _⟩
 case round =>
  obtain ⟨j, rfl, hj, hp, hk⟩ := hrel
  have HP := BO hp
  have HK := BO hk
  clear hp hk
  by_cases hlt : j < N
  ·have hi : (j : Int) < (N : Int) := by omega
   obtain ⟨x, hx⟩ : ∃ x, xs[j]? = some x := ⟨xs[j]'(by rw [HN.out]; exact hlt), List.getElem?_eq_getElem _⟩
   obtain ⟨g, o, ra, rc, rfl, hcell, hrow, hrl, hrc⟩ := eB (s5.out.kept HK.out) hx
   have HX := BO hx
   obtain ⟨hent, hcall⟩ := t7.out x (List.mem_of_getElem? hx)
   unfold Enters at hent
   have HC := BO (hcall wr _ HK.out hrow)
   clear hx hrow hcall
   generalize x.length = xl at *
   cases hpx : p x
   ·rw [hpx] at HC
    have up := BO hpx
    clear hpx
    go_wp2_with (refine HC.out.mono ?_; rintro e1 w1 ⟨rfl, hk1⟩; have sW := BO (HK.out.trans hk1 (fun _ h => h.elim)); clear hk1 HC hcell)
    go_roundw
    case rel => exact ⟨j + 1, by go_num, by omega, cN HP.out HX.out up.out, sW.out⟩
    case measure => simp [intOf]; omega
   ·rw [hpx] at HC
    have up := BO hpx
    clear hpx
    go_wp2_with (refine HC.out.mono ?_; rintro e1 w1 ⟨rfl, hk1⟩; have sW := BO (HK.out.trans hk1 (fun _ h => h.elim)); clear hk1 HC hcell)
    go_ret
    exact ⟨by rw [eN HP.out HX.out up.out]; rfl, sW.out⟩
  ·have hi : ¬ ((j : Int) < (N : Int)) := by omega
   have he : cl p xs = -1 := dt (by have := HP.out; rwa [List.take_of_length_le (by rw [HN.out]; omega)] at this)
   have HE := BO he
   clear he
   go_wp2_with fail
   go_ret
   exact ⟨by rw [HE.out]; rfl, HK.out⟩
theorem gx {w : World} {v : Value} {xs : List (List Val)} {F : Nat} {caps : Array Value} (p : List Val → Bool) (hrd : RowsRd w v xs) (HF : ∀ x ∈ xs, PredR F caps w x (p x)) :
  Calls Tryz.prog 161 #[v, .func (.func F) #[] caps] w fun e w' => e = .returned (.bool (xs.any p)) ∧ Kept (fun _ => False) w w' := by
 have H := BO (nr p hrd HF)
 rw [← ib]
 clear hrd HF
 generalize cl p xs = k at *
 go_enter Tryz.func161, Tryz.ntmps161
 go_wp2_with (go_at_call 192; refine H.out.mono ?_; rintro e1 w1 ⟨rfl, hk1⟩; have sW := BO hk1; clear hk1 H)
 go_ret
 exact ⟨rfl, sW.out⟩
theorem all1F {w : World} {b F : Nat} {caps : Array Value} {t : TypeId} {r : List Val} {p : Bool} (hb : w.heap[b]? = some (.cells #[.func (.func F) #[] caps] t (0, 0))) (h : PredR F caps w r p) : PredR 162 #[.pointer (some ⟨b, 0, none⟩)] w r (!p) := by
 refine ⟨enters_of Tryz.func162 (by kernel_rfl) rfl, fun W hv hW hr => ?_⟩
 obtain ⟨c0, _⟩ := aM (aA hW hb)
 obtain ⟨hent, hcall⟩ := h.kept hW
 unfold Enters at hent
 have HC := BO (hcall W hv (Kept.refl _ _) hr)
 obtain ⟨_, _, ra, rc, rfl, _⟩ := hr
 clear hb hcall h
 show Calls Tryz.prog 162 #[.slice ra r.length rc, .pointer (some ⟨b, 0, none⟩)] W _
 generalize r.length = rl at *
 go_enter Tryz.func162, Tryz.ntmps162
 go_wp2_with (refine HC.out.mono ?_; rintro e1 w1 ⟨rfl, hk1⟩; have sW := BO hk1; clear hk1 HC c0)
 go_ret
 exact ⟨rfl, sW.out⟩
theorem mY {α : Type} (l : List α) (p : α → Bool) : (!(l.any (fun x => !p x))) = l.all p := by rw [List.any_eq_not_all_not, Bool.not_not]; congr 1; funext e; simp
theorem rP {w : World} {v : Value} {xs : List (List Val)} {F : Nat} {caps : Array Value} (p : List Val → Bool) (hrd : RowsRd w v xs) (HF : ∀ x ∈ xs, PredR F caps w x (p x)) :
  Calls Tryz.prog 118 #[v, .func (.func F) #[] caps] w fun e w' => e = .returned (.bool (xs.all p)) ∧ Kept (fun _ => False) w w' := by
 obtain ⟨W1, hW1, hk1, hb1⟩ : ∃ W, W = w.alloc (.cells #[.func (.func F) #[] caps] 153) ∧ Kept (fun _ => False) w W ∧ W.heap[w.heap.size]? = some (.cells #[.func (.func F) #[] caps] 153 (0, 0)) := ⟨_, rfl, (Kept.refl _ _).alloc _, aB _ _⟩
 have HC := BO (gx (fun x => !p x) (hrd.kept hk1) (fun x hx => all1F hb1 ((HF x hx).kept hk1)))
 rw [← mY]
 have sR := BO hW1
 have sW := BO hk1
 obtain ⟨ao, cap, rfl, _⟩ := hrd.shape
 clear hW1 hk1 hb1 hrd HF
 generalize (xs.any fun x => !p x) = r at *
 go_enter Tryz.func118, Tryz.ntmps118
 go_upto_region 1 with fail
 rw [← sR.out]
 clear sR
 generalize w.heap.size = b1 at *
 go_wp2_with (go_at_call 161; refine HC.out.mono ?_; rintro e1 w1 ⟨rfl, hk2⟩; have s8 := BO (sW.out.trans hk2 (fun _ h => h.elim)); clear hk2 HC)
 go_ret
 exact ⟨rfl, s8.out⟩
theorem in1F {w : World} {b : Nat} {t : TypeId} {v : Value} {y r : List Val} (hb : w.heap[b]? = some (.cells #[v] t (0, 0))) (hv : cO w v y) : PredR 163 #[.pointer (some ⟨b, 0, none⟩)] w r (decide (r = y)) := by
 refine ⟨enters_of Tryz.func163 (by kernel_rfl) rfl, fun W hr hW hrd => ?_⟩
 obtain ⟨c0, _⟩ := aM (aA hW hb)
 have HC := BO (oL hrd (hv.kept hW (fun _ _ h => h)))
 obtain ⟨_, _, ra, rc, rfl, _⟩ := hrd
 obtain ⟨_, _, va, vc, rfl, _⟩ := hv
 clear hb hW
 show Calls Tryz.prog 163 #[.slice ra r.length rc, .pointer (some ⟨b, 0, none⟩)] W _
 generalize decide (r = y) = rr at *
 generalize r.length = rl at *
 go_enter Tryz.func163, Tryz.ntmps163
 go_wp2_with (go_at_call 164; refine HC.out.mono ?_; rintro e1 w1 ⟨rfl, n, rfl⟩; clear HC c0)
 go_ret
 exact ⟨rfl, (Kept.refl _ _).drewN n⟩
theorem in_R {w : World} {v u : Value} {xs : List (List Val)} {y : List Val} (hrd : RowsRd w v xs) (hu : cO w u y) :
  Calls Tryz.prog 120 #[v, u] w fun e w' => e = .returned (.bool (cY xs y)) ∧ Kept (fun _ => False) w w' := by
 have HR := BO (show cY xs y = xs.any (fun x => decide (x = y)) from rfl)
 rw [HR.out]
 obtain ⟨_, _, ua, uc, rfl, _⟩ := id hu
 obtain ⟨W1, hW1, hk1, hb1⟩ : ∃ W, W = w.alloc (.cells #[.slice ua y.length uc] 91) ∧ Kept (fun _ => False) w W ∧ W.heap[w.heap.size]? = some (.cells #[.slice ua y.length uc] 91 (0, 0)) := ⟨_, rfl, (Kept.refl _ _).alloc _, aB _ _⟩
 have HC := BO (gx (fun x => decide (x = y)) (hrd.kept hk1) (fun x _ => in1F hb1 (hu.kept hk1 (fun _ _ h => h))))
 have sR := BO hW1
 have sW := BO hk1
 obtain ⟨ao, cap, rfl, _⟩ := hrd.shape
 clear hW1 hk1 hb1 hrd hu HR
 generalize (xs.any fun x => decide (x = y)) = r at *
 generalize y.length = yl at *
 go_enter Tryz.func120, Tryz.ntmps120
 go_upto_region 1 with fail
 rw [← sR.out]
 clear sR
 generalize w.heap.size = b1 at *
 go_wp2_with (go_at_call 161; refine HC.out.mono ?_; rintro e1 w1 ⟨rfl, hk2⟩; have s8 := BO (sW.out.trans hk2 (fun _ h => h.elim)); clear hk2 HC)
 go_ret
 exact ⟨rfl, s8.out⟩
theorem aW {w : World} {b : Nat} {x : ClmE} {t : TypeId} {fr : Nat × Nat} (h : w.heap[b]? = some (.cells x.cells.toArray t fr)) :
  w.cell? ⟨b, 2, none⟩ = some (.int .i64 x.mode) ∧ w.cell? ⟨b, 6, none⟩ = some (.slice x.ia x.il x.ic) := by
 refine ⟨?_, ?_⟩ <;> simp [World.cell?, h, ClmE.cells]
theorem bG {P : Program} {w : World} {o : Oper} {a : Act} {ops : Array Oper} {rest : List Oper} {Q : Exit → Act → World → Prop} (hgd : Region.wanted o (yielded ops a.tmps) = true) (ty : TypeId) (x : Operand) (ho : o.op = .load ty x) (b i : Nat) (hx : a.eval x = .pointer (some ⟨b, i, none⟩)) (cs : List Value)
  (hl : (loadVar ty ⟨b, i, none⟩).run P w = .ok (.agg cs.toArray) w) (h : wpList P ops Q rest (a.put o.dst (.agg cs.toArray)) w) : wpList P ops Q (o :: rest) a w :=
 aw hgd fun _ hK => by
  unfold Oper.wp execOp
  simp only [ho, hx, Instr.loadAt, Instr.sureAddr, Sem.run_bind, Sem.run_pure, Result.andThen_ok, hl]
  exact hK _ _ h
theorem meets1F {w : World} {b : Nat} {x : ClmE} (hb : w.heap[b]? = some (.cells x.cells.toArray tCl (0, 0))) (hx : PredsRd w (.slice x.pr.la x.pr.ln x.pr.lc) x.pr.subs) (r : List Val) :
  PredR 159 #[.pointer (some ⟨b, 0, none⟩)] w r (!(decide (0 < r.length) && x.pr.p.holds r)) := by
 refine ⟨enters_of Tryz.func159 (by kernel_rfl) rfl, fun W rv hW hr => ?_⟩
 have HL := BO (bu (eF (aA hW hb)))
 have HC := BO (l9 x.pr.p x.pr W rv r rfl (hx.kept hW) hr)
 obtain ⟨_, hml, ra, rc, rfl, _⟩ := id hr
 unfold maxLen at hml
 clear hb hx hW hr
 show Calls Tryz.prog 159 #[.slice ra r.length rc, .pointer (some ⟨b, 0, none⟩)] W _
 by_cases h0 : r.length = 0
 ·have HR := BO (show (!(decide (0 < r.length) && x.pr.p.holds r)) = true by simp [h0])
  rw [HR.out, h0]
  clear HR HC HL
  go_enter Tryz.func159, Tryz.ntmps159
  go_wp2_with fail
  go_ret
  exact ⟨rfl, Kept.refl _ _⟩
 ·have HR := BO (show (!(decide (0 < r.length) && x.pr.p.holds r)) = !(x.pr.p.holds r) by rw [decide_eq_true (by omega)]; simp)
  have hne : ((r.length : Int) == 0) = false := by simp; intro h; exact h0 (by rw [h]; rfl)
  rw [HR.out]
  clear HR h0
  generalize x.pr.p.holds r = rr at *
  generalize r.length = rl at *
  go_enter Tryz.func159, Tryz.ntmps159
  go_wp2_with (first | (refine bG rfl _ _ rfl _ _ rfl _ HL.out ?_) | (go_at_call 160; refine HC.out.mono ?_; rintro e1 w1 ⟨rfl, hk1⟩; have sW := BO hk1; clear hk1 HC HL))
  go_ret
  exact ⟨rfl, sW.out⟩
theorem mN {w : World} {x y : ClmE} (hx : RdCl w x) (hy : RdCl w y) : Calls Tryz.prog 115 #[.agg x.cells.toArray, .agg y.cells.toArray] w fun r w' => r = .returned (.bool (bO x.c y.c)) ∧ Kept (fun _ => False) w w' := by
 obtain ⟨W1, hW1, hk1, hb1, hb2⟩ := dD w x.cells.toArray y.cells.toArray tCl tCl
 have HA := BO (rP (fun r => !(decide (0 < r.length) && x.pr.p.holds r)) (hy.1.kept hk1) (fun r _ => meets1F hb1 (hx.2.kept hk1) r))
 have sR := BO hW1
 have sW := BO hk1
 have s7 := BO hb2
 have HP := BO (show bO x.c y.c = (decide (y.mode = 6) && !(y.imgs.all (fun r => !(decide (0 < r.length) && x.pr.p.holds r)))) by
  show (decide (y.mode = 6) && y.imgs.any _) = _
  rw [List.all_eq_not_any_not, Bool.not_not]
  congr 2
  funext r
  rw [Bool.not_not]
  rfl)
 rw [HP.out]
 clear hW1 hk1 hb1 hb2 hx hy HP
 generalize (y.imgs.all fun r => !(decide (0 < r.length) && x.pr.p.holds r)) = rr at *
 by_cases hm : y.mode = 6
 ·have HR := BO (show (decide (y.mode = 6) && !rr) = !rr by rw [decide_eq_true hm]; simp)
  rw [HR.out]
  have HM := BO hm
  clear HR hm
  go_enter Tryz.func115, Tryz.ntmps115
  go_upto_region 1 with fail
  rw [← sR.out]
  clear sR
  generalize w.heap.size + 1 = b2 at s7 HA ⊢
  generalize w.heap.size = b1 at HA ⊢
  obtain ⟨y2, y6⟩ := aW s7.out
  rw [HM.out] at y2
  go_wp2_with (go_at_call 118; refine HA.out.mono ?_; rintro e1 w1 ⟨rfl, hk2⟩; have s8 := BO (sW.out.trans hk2 (fun _ h => h.elim)); clear hk2 HA y2 y6)
  go_ret
  exact ⟨rfl, s8.out⟩
 ·have HR := BO (show (decide (y.mode = 6) && !rr) = false by rw [decide_eq_false hm]; simp)
  rw [HR.out]
  have hq : (y.mode == 6) = false := by simpa using hm
  clear HR hm HA
  go_enter Tryz.func115, Tryz.ntmps115
  go_upto_region 1 with fail
  rw [← sR.out]
  clear sR
  generalize w.heap.size + 1 = b2 at s7 ⊢
  generalize w.heap.size = b1 at *
  obtain ⟨y2, y6⟩ := aW s7.out
  go_wp2_with fail
  go_ret
  exact ⟨rfl, sW.out⟩
theorem conf_C {w : World} {x y : ClmE} (he : Env w) (hx : RdCl w x) (hy : RdCl w y) : Calls Tryz.prog 75 #[.agg x.cells.toArray, .agg y.cells.toArray] w fun r w' => r = .returned (.bool (RC.conf x.c y.c)) ∧ Kept (fun _ => False) w w' := by
 obtain ⟨W1, hW1, hk1, hb1, hb2⟩ := dD w x.cells.toArray y.cells.toArray tCl tCl
 have sR := BO hW1
 have sW := BO hk1
 have sZ := BO hb1
 have s7 := BO hb2
 have HX := BO (hx.kept hk1)
 have HY := BO (hy.kept hk1)
 have HE := BO (he.kept hk1)
 have HP := BO (show RC.conf x.c y.c = (decide (x.table = y.table) && (if x.kind = 1 ∧ y.kind = 1 then !cK x.mode y.mode else if x.kind = 2 ∧ y.kind = 2 then decide (x.key = y.key) && !cK x.mode y.mode else if x.kind = 3 ∧ y.kind = 2 then bO x.c y.c else if x.kind = 2 ∧ y.kind = 3 then bO y.c x.c else false)) from rfl)
 have t8 := BO (show RC.same x.c y.c = (decide (x.kind = y.kind) && decide (x.table = y.table) && (if x.kind = 1 then true else if x.kind = 2 then decide (x.key = y.key) else if x.kind = 3 then bR x.pr.p y.pr.p else false)) from rfl)
 clear hW1 hk1 hb1 hb2 hx hy he
 by_cases ht : x.table = y.table
 ·have hq : (x.table == y.table) = true := by simpa using ht
  have hq2 : (x.table != y.table) = false := by simpa using ht
  by_cases hk32 : x.kind = 3 ∧ y.kind = 2
  ·obtain ⟨h1, h2⟩ := hk32
   have HR := BO (show RC.conf x.c y.c = bO x.c y.c by rw [HP.out, ht, h1, h2]; simp)
   have a1 : cx x.kind y.kind 3 2 = true := by unfold cx; rw [h1, h2]; decide
   rw [HR.out]
   clear ht h1 h2 HP HR t8
   go_enter Tryz.func75, Tryz.ntmps75
   go_upto_region 1 with fail
   rw [← sR.out]
   clear sR
   generalize w.heap.size + 1 = b2 at s7 ⊢
   generalize w.heap.size = b1 at sZ ⊢
   obtain ⟨x0, x1, x3, x4, x5⟩ := aY sZ.out
   obtain ⟨y0, y1, y3, y4, y5⟩ := aY s7.out
   go_upto_region 4 with fail
   obtain ⟨W2, hW2, hk2, hb3⟩ : ∃ W, W = W1.alloc (.cells #[.int .i64 x.kind, .int .i64 y.kind] 151) ∧ Kept (fun _ => False) W1 W ∧ W.heap[W1.heap.size]? = some (.cells #[.int .i64 x.kind, .int .i64 y.kind] 151 (0, 0)) := ⟨_, rfl, (Kept.refl _ _).alloc _, aB _ _⟩
   rw [← hW2]
   have s8 := BO (sW.out.trans hk2 (fun _ h => h.elim))
   have hbx := (hk2.block b1 (aI sZ.out) (fun h => h)).trans sZ.out
   have hby := (hk2.block b2 (aI s7.out) (fun h => h)).trans s7.out
   have th := BO (ay (ai hbx))
   have tC := BO (ay (ai hby))
   obtain ⟨z0, z1, _⟩ := aH hb3
   have wI := BO (HX.out.kept hk2)
   have wJ := BO (HY.out.kept hk2)
   have vk := BO (HE.out.kept hk2)
   have tu := BO hbx
   have ww := BO hby
   clear hW2 hk2 hb3 hbx hby x0 x1 x3 x4 x5 y0 y1 y3 y4 y5 HX HY HE
   generalize W1.heap.size = b3 at z0 z1 ⊢
   have zb := BO (mN wI.out wJ.out)
   clear wI wJ vk tu ww sZ s7
   go_wp2_with (first | (refine ag rfl _ _ rfl _ _ rfl _ th.out ?_) | (refine ag rfl _ _ rfl _ _ rfl _ tC.out ?_) | (go_at_call 115; refine zb.out.mono ?_; rintro r3 w3 ⟨rfl, hk3⟩; have tn := BO (s8.out.trans hk3 (fun _ h => h.elim)); clear hk3 zb th tC z0 z1))
   go_ret
   exact ⟨rfl, tn.out⟩
  by_cases hk23 : x.kind = 2 ∧ y.kind = 3
  ·obtain ⟨h1, h2⟩ := hk23
   have HR := BO (show RC.conf x.c y.c = bO y.c x.c by rw [HP.out, ht, h1, h2]; simp)
   have a1 : cx x.kind y.kind 3 2 = false := by unfold cx; rw [h1, h2]; decide
   have a2 : cx x.kind y.kind 2 3 = true := by unfold cx; rw [h1, h2]; decide
   rw [HR.out]
   clear ht h1 h2 HP HR t8
   go_enter Tryz.func75, Tryz.ntmps75
   go_upto_region 1 with fail
   rw [← sR.out]
   clear sR
   generalize w.heap.size + 1 = b2 at s7 ⊢
   generalize w.heap.size = b1 at sZ ⊢
   obtain ⟨x0, x1, x3, x4, x5⟩ := aY sZ.out
   obtain ⟨y0, y1, y3, y4, y5⟩ := aY s7.out
   go_upto_region 4 with fail
   obtain ⟨W2, hW2, hk2, hb3⟩ : ∃ W, W = W1.alloc (.cells #[.int .i64 x.kind, .int .i64 y.kind] 151) ∧ Kept (fun _ => False) W1 W ∧ W.heap[W1.heap.size]? = some (.cells #[.int .i64 x.kind, .int .i64 y.kind] 151 (0, 0)) := ⟨_, rfl, (Kept.refl _ _).alloc _, aB _ _⟩
   rw [← hW2]
   have s8 := BO (sW.out.trans hk2 (fun _ h => h.elim))
   have hbx := (hk2.block b1 (aI sZ.out) (fun h => h)).trans sZ.out
   have hby := (hk2.block b2 (aI s7.out) (fun h => h)).trans s7.out
   have th := BO (ay (ai hbx))
   have tC := BO (ay (ai hby))
   obtain ⟨z0, z1, _⟩ := aH hb3
   have wI := BO (HX.out.kept hk2)
   have wJ := BO (HY.out.kept hk2)
   have vk := BO (HE.out.kept hk2)
   have tu := BO hbx
   have ww := BO hby
   clear hW2 hk2 hb3 hbx hby x0 x1 x3 x4 x5 y0 y1 y3 y4 y5 HX HY HE
   generalize W1.heap.size = b3 at z0 z1 ⊢
   have zb := BO (mN wJ.out wI.out)
   clear wI wJ vk tu ww sZ s7
   go_wp2_with (first | (refine ag rfl _ _ rfl _ _ rfl _ th.out ?_) | (refine ag rfl _ _ rfl _ _ rfl _ tC.out ?_) | (go_at_call 115; refine zb.out.mono ?_; rintro r3 w3 ⟨rfl, hk3⟩; have tn := BO (s8.out.trans hk3 (fun _ h => h.elim)); clear hk3 zb th tC z0 z1))
   go_ret
   exact ⟨rfl, tn.out⟩
  by_cases hkl2 : x.kind = 2 ∧ y.kind = 2
  ·obtain ⟨h1, h2⟩ := hkl2
   have a1 : cx x.kind y.kind 3 2 = false := by unfold cx; rw [h1, h2]; decide
   have a2 : cx x.kind y.kind 2 3 = false := by unfold cx; rw [h1, h2]; decide
   have a3 : cx x.kind y.kind 2 2 = true := by unfold cx; rw [h1, h2]; decide
   by_cases hkey : x.key = y.key
   ·have tZ := BO (show RC.same x.c y.c = true by rw [t8.out, h1, h2, ht]; simp [hkey])
    have HR := BO (show RC.conf x.c y.c = !cK x.mode y.mode by rw [HP.out, h1, h2, ht]; simp [hkey])
    rw [HR.out]
    clear ht h1 h2 HP HR t8 hkey
    go_enter Tryz.func75, Tryz.ntmps75
    go_upto_region 1 with fail
    rw [← sR.out]
    clear sR
    generalize w.heap.size + 1 = b2 at s7 ⊢
    generalize w.heap.size = b1 at sZ ⊢
    obtain ⟨x0, x1, x3, x4, x5⟩ := aY sZ.out
    obtain ⟨y0, y1, y3, y4, y5⟩ := aY s7.out
    go_upto_region 4 with fail
    obtain ⟨W2, hW2, hk2, hb3⟩ : ∃ W, W = W1.alloc (.cells #[.int .i64 x.kind, .int .i64 y.kind] 151) ∧ Kept (fun _ => False) W1 W ∧ W.heap[W1.heap.size]? = some (.cells #[.int .i64 x.kind, .int .i64 y.kind] 151 (0, 0)) := ⟨_, rfl, (Kept.refl _ _).alloc _, aB _ _⟩
    rw [← hW2]
    have s8 := BO (sW.out.trans hk2 (fun _ h => h.elim))
    have hbx := (hk2.block b1 (aI sZ.out) (fun h => h)).trans sZ.out
    have hby := (hk2.block b2 (aI s7.out) (fun h => h)).trans s7.out
    have th := BO (ay (ai hbx))
    have tC := BO (ay (ai hby))
    obtain ⟨z0, z1, _⟩ := aH hb3
    have wI := BO (HX.out.kept hk2)
    have wJ := BO (HY.out.kept hk2)
    have vk := BO (HE.out.kept hk2)
    have tu := BO hbx
    have ww := BO hby
    clear hW2 hk2 hb3 hbx hby x0 x1 x3 x4 x5 y0 y1 y3 y4 y5 HX HY HE
    generalize W1.heap.size = b3 at z0 z1 ⊢
    have tD := BO (eR wI.out wJ.out)
    rw [tZ.out] at tD
    clear tZ
    go_wp2_with (first | (refine ag rfl _ _ rfl _ _ rfl _ th.out ?_) | (refine ag rfl _ _ rfl _ _ rfl _ tC.out ?_) | (go_at_call 74; refine tD.out.mono ?_; rintro r3 w3 ⟨rfl, hk3⟩; have tn := BO (s8.out.trans hk3 (fun _ h => h.elim)); have vm := BO (po x.mode y.mode w3 (vk.out.kept hk3).2); have x2 := (aW (aA hk3 tu.out)).1; have y2 := (aW (aA hk3 ww.out)).1; clear hk3 tD th tC z0 z1) | (go_at_call 116; refine vm.out.mono ?_; rintro r4 w4 ⟨rfl, rfl⟩; clear vm))
    go_ret
    exact ⟨rfl, tn.out⟩
   ·have tZ := BO (show RC.same x.c y.c = false by rw [t8.out, h1, h2, ht]; simp [hkey])
    have HR := BO (show RC.conf x.c y.c = false by rw [HP.out, h1, h2, ht]; simp [hkey])
    rw [HR.out]
    clear ht h1 h2 HP HR t8 hkey
    go_enter Tryz.func75, Tryz.ntmps75
    go_upto_region 1 with fail
    rw [← sR.out]
    clear sR
    generalize w.heap.size + 1 = b2 at s7 ⊢
    generalize w.heap.size = b1 at sZ ⊢
    obtain ⟨x0, x1, x3, x4, x5⟩ := aY sZ.out
    obtain ⟨y0, y1, y3, y4, y5⟩ := aY s7.out
    go_upto_region 4 with fail
    obtain ⟨W2, hW2, hk2, hb3⟩ : ∃ W, W = W1.alloc (.cells #[.int .i64 x.kind, .int .i64 y.kind] 151) ∧ Kept (fun _ => False) W1 W ∧ W.heap[W1.heap.size]? = some (.cells #[.int .i64 x.kind, .int .i64 y.kind] 151 (0, 0)) := ⟨_, rfl, (Kept.refl _ _).alloc _, aB _ _⟩
    rw [← hW2]
    have s8 := BO (sW.out.trans hk2 (fun _ h => h.elim))
    have hbx := (hk2.block b1 (aI sZ.out) (fun h => h)).trans sZ.out
    have hby := (hk2.block b2 (aI s7.out) (fun h => h)).trans s7.out
    have th := BO (ay (ai hbx))
    have tC := BO (ay (ai hby))
    obtain ⟨z0, z1, _⟩ := aH hb3
    have wI := BO (HX.out.kept hk2)
    have wJ := BO (HY.out.kept hk2)
    have vk := BO (HE.out.kept hk2)
    have tu := BO hbx
    have ww := BO hby
    clear hW2 hk2 hb3 hbx hby x0 x1 x3 x4 x5 y0 y1 y3 y4 y5 HX HY HE
    generalize W1.heap.size = b3 at z0 z1 ⊢
    have tD := BO (eR wI.out wJ.out)
    rw [tZ.out] at tD
    clear tZ
    go_wp2_with (first | (refine ag rfl _ _ rfl _ _ rfl _ th.out ?_) | (refine ag rfl _ _ rfl _ _ rfl _ tC.out ?_) | (go_at_call 74; refine tD.out.mono ?_; rintro r3 w3 ⟨rfl, hk3⟩; have tn := BO (s8.out.trans hk3 (fun _ h => h.elim)); clear hk3 tD th tC z0 z1))
    go_ret
    exact ⟨rfl, tn.out⟩
  by_cases hkl1 : x.kind = 1 ∧ y.kind = 1
  ·obtain ⟨h1, h2⟩ := hkl1
   have a1 : cx x.kind y.kind 3 2 = false := by unfold cx; rw [h1, h2]; decide
   have a2 : cx x.kind y.kind 2 3 = false := by unfold cx; rw [h1, h2]; decide
   have a3 : cx x.kind y.kind 2 2 = false := by unfold cx; rw [h1, h2]; decide
   have a4 : cx x.kind y.kind 1 1 = true := by unfold cx; rw [h1, h2]; decide
   have tZ := BO (show RC.same x.c y.c = true by rw [t8.out, h1, h2, ht]; simp)
   have HR := BO (show RC.conf x.c y.c = !cK x.mode y.mode by rw [HP.out, h1, h2, ht]; simp)
   rw [HR.out]
   clear ht h1 h2 HP HR t8
   go_enter Tryz.func75, Tryz.ntmps75
   go_upto_region 1 with fail
   rw [← sR.out]
   clear sR
   generalize w.heap.size + 1 = b2 at s7 ⊢
   generalize w.heap.size = b1 at sZ ⊢
   obtain ⟨x0, x1, x3, x4, x5⟩ := aY sZ.out
   obtain ⟨y0, y1, y3, y4, y5⟩ := aY s7.out
   go_upto_region 4 with fail
   obtain ⟨W2, hW2, hk2, hb3⟩ : ∃ W, W = W1.alloc (.cells #[.int .i64 x.kind, .int .i64 y.kind] 151) ∧ Kept (fun _ => False) W1 W ∧ W.heap[W1.heap.size]? = some (.cells #[.int .i64 x.kind, .int .i64 y.kind] 151 (0, 0)) := ⟨_, rfl, (Kept.refl _ _).alloc _, aB _ _⟩
   rw [← hW2]
   have s8 := BO (sW.out.trans hk2 (fun _ h => h.elim))
   have hbx := (hk2.block b1 (aI sZ.out) (fun h => h)).trans sZ.out
   have hby := (hk2.block b2 (aI s7.out) (fun h => h)).trans s7.out
   have th := BO (ay (ai hbx))
   have tC := BO (ay (ai hby))
   obtain ⟨z0, z1, _⟩ := aH hb3
   have wI := BO (HX.out.kept hk2)
   have wJ := BO (HY.out.kept hk2)
   have vk := BO (HE.out.kept hk2)
   have tu := BO hbx
   have ww := BO hby
   clear hW2 hk2 hb3 hbx hby x0 x1 x3 x4 x5 y0 y1 y3 y4 y5 HX HY HE
   generalize W1.heap.size = b3 at z0 z1 ⊢
   have tD := BO (eR wI.out wJ.out)
   rw [tZ.out] at tD
   clear tZ
   go_wp2_with (first | (refine ag rfl _ _ rfl _ _ rfl _ th.out ?_) | (refine ag rfl _ _ rfl _ _ rfl _ tC.out ?_) | (go_at_call 74; refine tD.out.mono ?_; rintro r3 w3 ⟨rfl, hk3⟩; have tn := BO (s8.out.trans hk3 (fun _ h => h.elim)); have vm := BO (po x.mode y.mode w3 (vk.out.kept hk3).2); have x2 := (aW (aA hk3 tu.out)).1; have y2 := (aW (aA hk3 ww.out)).1; clear hk3 tD th tC z0 z1) | (go_at_call 116; refine vm.out.mono ?_; rintro r4 w4 ⟨rfl, rfl⟩; clear vm))
   go_ret
   exact ⟨rfl, tn.out⟩
  have a1 : cx x.kind y.kind 3 2 = false := by unfold cx; rw [Bool.and_eq_false_iff, decide_eq_false_iff_not, decide_eq_false_iff_not]; omega
  have a2 : cx x.kind y.kind 2 3 = false := by unfold cx; rw [Bool.and_eq_false_iff, decide_eq_false_iff_not, decide_eq_false_iff_not]; omega
  have a3 : cx x.kind y.kind 2 2 = false := by unfold cx; rw [Bool.and_eq_false_iff, decide_eq_false_iff_not, decide_eq_false_iff_not]; omega
  have a4 : cx x.kind y.kind 1 1 = false := by unfold cx; rw [Bool.and_eq_false_iff, decide_eq_false_iff_not, decide_eq_false_iff_not]; omega
  have HR := BO (show RC.conf x.c y.c = false by rw [HP.out, if_neg hkl1, if_neg hkl2, if_neg hk32, if_neg hk23]; simp)
  rw [HR.out]
  clear ht hk32 hk23 hkl1 hkl2 HP HR t8
  go_enter Tryz.func75, Tryz.ntmps75
  go_upto_region 1 with fail
  rw [← sR.out]
  clear sR
  generalize w.heap.size + 1 = b2 at s7 ⊢
  generalize w.heap.size = b1 at sZ ⊢
  obtain ⟨x0, x1, x3, x4, x5⟩ := aY sZ.out
  obtain ⟨y0, y1, y3, y4, y5⟩ := aY s7.out
  go_upto_region 4 with fail
  obtain ⟨W2, hW2, hk2, hb3⟩ : ∃ W, W = W1.alloc (.cells #[.int .i64 x.kind, .int .i64 y.kind] 151) ∧ Kept (fun _ => False) W1 W ∧ W.heap[W1.heap.size]? = some (.cells #[.int .i64 x.kind, .int .i64 y.kind] 151 (0, 0)) := ⟨_, rfl, (Kept.refl _ _).alloc _, aB _ _⟩
  rw [← hW2]
  have s8 := BO (sW.out.trans hk2 (fun _ h => h.elim))
  have hbx := (hk2.block b1 (aI sZ.out) (fun h => h)).trans sZ.out
  have hby := (hk2.block b2 (aI s7.out) (fun h => h)).trans s7.out
  have th := BO (ay (ai hbx))
  have tC := BO (ay (ai hby))
  obtain ⟨z0, z1, _⟩ := aH hb3
  have wI := BO (HX.out.kept hk2)
  have wJ := BO (HY.out.kept hk2)
  have vk := BO (HE.out.kept hk2)
  have tu := BO hbx
  have ww := BO hby
  clear hW2 hk2 hb3 hbx hby x0 x1 x3 x4 x5 y0 y1 y3 y4 y5 HX HY HE
  generalize W1.heap.size = b3 at z0 z1 ⊢
  go_wp2_with fail
  go_ret
  exact ⟨rfl, s8.out⟩
 ·have hq : (x.table == y.table) = false := by simpa using ht
  have hq2 : (x.table != y.table) = true := by simpa using ht
  have HR := BO (show RC.conf x.c y.c = false by rw [HP.out]; simp [ht])
  rw [HR.out]
  clear ht HP t8 HX HY HR HE
  go_enter Tryz.func75, Tryz.ntmps75
  go_upto_region 1 with fail
  rw [← sR.out]
  clear sR
  generalize w.heap.size + 1 = b2 at s7 ⊢
  generalize w.heap.size = b1 at sZ ⊢
  obtain ⟨x0, x1, x3, x4, x5⟩ := aY sZ.out
  obtain ⟨y0, y1, y3, y4, y5⟩ := aY s7.out
  go_wp2_with fail
  go_ret
  exact ⟨rfl, sW.out⟩
end Go.Proofs.YtgljdkjepdknnaaGreatDoor
