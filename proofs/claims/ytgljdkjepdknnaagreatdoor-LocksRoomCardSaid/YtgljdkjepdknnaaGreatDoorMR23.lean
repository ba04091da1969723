/- Joined texts: Openings of a claim, with the bounds of its strings. (printed by genfopenf.py) The document's answer: Covers of any two numbers, and Join (ratlineref08). The document's answer: whether a row is one of some, whether a claim covers another (ratlineref09.In, Covers). The document's answer: one claim in the place of two (ratlineref09.Join). -/
import Derived.Test.YtgljdkjepdknnaaGreatDoorMR20
import Derived.Test.YtgljdkjepdknnaaGreatDoorMR22
import Derived.Test.YtgljdkjepdknnaaGreatDoorMR18
import Derived.Test.YtgljdkjepdknnaaGreatDoorMR14
/- Openings of a claim, with the bounds of its strings. (printed by genfopenf.py) -/
namespace Go.Proofs.YtgljdkjepdknnaaGreatDoor
open Go.ChangeShapes Go.WideShapes Go.ChangeAt Go.RowKit Go.Deep
set_option maxRecDepth 100000
set_option linter.unusedSimpArgs false

section
variable {H : Type} {enc : TypeId × Value → H} {w : World} {base : Nat} {spare : Nat → Bool} {held : Bool}
theorem openF_val {fuel : Nat} {cs : List Value} {x : DataW H × List MemPlace} (h : DataW.trod enc Tryz.prog w base spare held fuel 31 cs = some x) : ∃ v : Val, cs = v.cells ∧ v.fits := by
 obtain ⟨y0, y1, y2, n, _, hl, t0, t1, t2⟩ := struct3F Tryz.underlying31 h
 rw [cellsValO] at hl
 simp only [cellsBoolO, cellsI64O, cellsStrO] at t0 t1 t2
 match cs, hl with
 | [c0, c1, c2], _ =>
  simp only [List.drop, List.take] at t0 t1 t2
  obtain ⟨b, hb, _⟩ := DataW.trod_bool Tryz.underlying4 t0
  obtain ⟨z, hz, _, wz⟩ := DataW.trod_int Tryz.underlying2 t1
  obtain ⟨s, hs, _, ws⟩ := DataW.trod_string Tryz.underlying9 t2
  simp only [List.cons.injEq, and_true] at hb hz hs
  subst hb hz hs
  exact ⟨⟨b, z, s⟩, rfl, ws⟩
theorem openF_pred : ∀ (fuel : Nat) {cs : List Value} {x : DataW H × List MemPlace}, DataW.trod enc Tryz.prog w base spare held fuel 35 cs = some x → ∃ e : PredE, cs = e.cells ∧ PredsRd w (.slice e.la e.ln e.lc) e.subs ∧ PredFit e.p := by
 intro fuel
 induction fuel using Nat.strongRecOn with
 | _ fuel ih =>
  intro cs x h
  obtain ⟨y0, y1, y2, y3, y4, n, hn, hl, t0, t1, t2, t3, t4⟩ := struct5F Tryz.underlying35 h
  rw [cellsPrO] at hl
  simp only [cellsIntO, cellsValO, cellsPrsO] at t0 t1 t2 t3 t4
  match cs, hl with
  | [c0, c1, c2, c3, c4, c5, c6, c7, c8], _ =>
   simp only [List.drop, List.take] at t0 t1 t2 t3 t4
   obtain ⟨z0, hz0, _, _⟩ := DataW.trod_int Tryz.underlying3 t0
   obtain ⟨z1, hz1, _, _⟩ := DataW.trod_int Tryz.underlying3 t1
   obtain ⟨v, hv, fv⟩ := openF_val t2
   obtain ⟨u, hu, fu⟩ := openF_val t3
   obtain ⟨s, es, hs, hrd, hes⟩ := open_RdF (f := PredE.cells) (G := fun e : PredE => PredsRd w (.slice e.la e.ln e.lc) e.subs ∧ PredFit e.p) Tryz.underlying33 cellsPrO (by omega) PredE.len (fun m hm cs d hd => ih m (by omega) hd) t4
   simp only [List.cons.injEq, and_true] at hz0 hz1 hs
   simp only [Val.cells, List.cons.injEq, and_true] at hv hu
   obtain ⟨rfl, rfl, rfl⟩ := hv
   obtain ⟨rfl, rfl, rfl⟩ := hu
   subst hz0 hz1 hs
   obtain ⟨_, _, la, lc, rfl, _⟩ := id hrd
   exact ⟨⟨z0, z1, v, u, la, es.length, lc, es.map PredE.p⟩, rfl, .mk _ es hrd (fun e he => (hes e he).1), .mk z0 z1 v u _ fv fu (fun q hq => by obtain ⟨e, he, rfl⟩ := List.mem_map.1 hq; exact (hes e he).2)⟩
theorem openF_row {fuel : Nat} {cs : List Value} {x : DataW H × List MemPlace} (h : DataW.trod enc Tryz.prog w base spare held fuel 91 cs = some x) : ∃ (v : Value) (r : List Val), cs = [v] ∧ RowRd w v r ∧ ∀ a ∈ r, a.fits := by
 obtain ⟨v, r, hc, hrd, hf⟩ := open_RdF (f := Val.cells) (G := fun a : Val => a.fits) Tryz.underlying91 cellsValO (by omega) Val.len (fun m hm cs d hd => by exact openF_val hd) h
 exact ⟨v, r, hc, hrd, hf⟩
theorem openF_rows {fuel : Nat} {cs : List Value} {x : DataW H × List MemPlace} (h : DataW.trod enc Tryz.prog w base spare held fuel 32 cs = some x) : ∃ (v : Value) (rs : List (List Val)), cs = [v] ∧ RowsRd w v rs ∧ ∀ r ∈ rs, ∀ a ∈ r, a.fits := by
 obtain ⟨v, l, hc, hrd, hl⟩ := open_RdF (f := fun a : Value × List Val => [a.1]) (G := fun a : Value × List Val => RowRd w a.1 a.2 ∧ ∀ z ∈ a.2, z.fits) Tryz.underlying32 cellsRowO (by omega) (fun _ => rfl) (fun m hm cs d hd => by obtain ⟨v, r, he, hr⟩ := openF_row hd; exact ⟨(v, r), he, hr⟩) h
 rw [flat_fst] at hrd
 refine ⟨v, l.map Prod.snd, hc, ⟨l.map Prod.fst, by simp, by simpa using hrd, fun i u r hu hr => ?_⟩, fun r hr => by obtain ⟨a, ha, rfl⟩ := List.mem_map.1 hr; exact (hl a ha).2⟩
 rw [List.getElem?_map] at hu hr
 cases hx : l[i]? with
 | none => rw [hx] at hu; cases hu
 | some a =>
  rw [hx] at hu hr
  obtain rfl := Option.some.inj hu
  obtain rfl := Option.some.inj hr
  exact (hl a (List.mem_of_getElem? hx)).1
theorem openF_claim {fuel : Nat} {cs : List Value} {x : DataW H × List MemPlace} (h : DataW.trod enc Tryz.prog w base spare held fuel 37 cs = some x) : ∃ c : ClmE, cs = c.cells ∧ RdCl w c ∧ ClmFit c.c := by
 obtain ⟨y0, y1, y2, y3, y4, y5, n, hn, hl, t0, t1, t2, t3, t4, t5⟩ := struct6F Tryz.underlying37 h
 rw [cellsClO] at hl
 simp only [cellsIntO, cellsValO, cellsModeO, cellsRowsO, cellsPrO] at t0 t1 t2 t3 t4 t5
 match cs, hl with
 | [c0, c1, c2, c3, c4, c5, c6, c7, c8, c9, c10, c11, c12, c13, c14, c15], _ =>
  simp only [List.drop, List.take] at t0 t1 t2 t3 t4 t5
  obtain ⟨z0, hz0, _, _⟩ := DataW.trod_int Tryz.underlying3 t0
  obtain ⟨z1, hz1, _, _⟩ := DataW.trod_int Tryz.underlying3 t1
  obtain ⟨z2, hz2, _, _⟩ := DataW.trod_int Tryz.underlying29 t2
  obtain ⟨v, hv, _⟩ := openF_val t3
  obtain ⟨s, rs, hs, hrd, hrf⟩ := openF_rows t4
  obtain ⟨p, hp, hpr, hpf⟩ := openF_pred _ t5
  simp only [List.cons.injEq, and_true] at hz0 hz1 hz2 hs
  simp only [Val.cells, List.cons.injEq, and_true] at hv
  simp only [PredE.cells, List.cons.injEq, and_true] at hp
  obtain ⟨rfl, rfl, rfl⟩ := hv
  obtain ⟨rfl, rfl, rfl, rfl, rfl, rfl, rfl, rfl, rfl⟩ := hp
  subst hz0 hz1 hz2 hs
  obtain ⟨hs, h1, ⟨_, _, ia, ic, rfl, _⟩, _⟩ := id hrd
  exact ⟨⟨z0, z1, z2, v, ia, rs.length, ic, rs, p⟩, rfl, ⟨hrd, hpr⟩, hpf, hrf⟩
end
end Go.Proofs.YtgljdkjepdknnaaGreatDoor

/- The document's answer: Covers of any two numbers, and Join (ratlineref08). -/
namespace Go.Proofs.YtgljdkjepdknnaaGreatDoor
open Go.ChangeShapes Go.WideShapes Go.ChangeAt Go.RowKit
set_option maxRecDepth 100000
set_option linter.unusedSimpArgs false

theorem covers_out (a b : Int) (h : a < 0 ∨ 6 < a ∨ b < 0 ∨ 6 < b) (w : World) :
  Calls Tryz.prog 54 #[.int .i64 a, .int .i64 b] w fun e w' => e = .returned (.bool false) ∧ w = w' := by
 by_cases h0 : a < 0
 ·go_enter Tryz.func54, Tryz.ntmps54
  go_wp2_with fail
  go_ret
  exact ⟨rfl, rfl⟩
 by_cases h1 : 6 < a
 ·have g1 : a > 6 := h1
  go_enter Tryz.func54, Tryz.ntmps54
  go_wp2_with fail
  go_ret
  exact ⟨rfl, rfl⟩
 have g1 : ¬ a > 6 := h1
 by_cases h2 : b < 0
 ·go_enter Tryz.func54, Tryz.ntmps54
  go_wp2_with fail
  go_ret
  exact ⟨rfl, rfl⟩
 have h3 : b > 6 := by omega
 go_enter Tryz.func54, Tryz.ntmps54
 go_wp2_with fail
 go_ret
 exact ⟨rfl, rfl⟩
theorem rCovers_ok (a b : Int) (w : World) : Calls Tryz.prog 54 #[.int .i64 a, .int .i64 b] w fun e w' => e = .returned (.bool (coversM a b)) ∧ Kept (fun _ => False) w w' := by
 by_cases h : a < 0 ∨ 6 < a ∨ b < 0 ∨ 6 < b
 ·rw [← coversB_M, show coversB a b = false by unfold coversB; rw [if_pos h]]
  exact (covers_out a b h w).mono (fun e w' ⟨h1, h2⟩ => ⟨h1, h2 ▸ Kept.refl _ _⟩)
 ·exact rCovers_in a b ⟨by omega, by omega⟩ ⟨by omega, by omega⟩ w
/-- the best of the first modes -/
def bestJ (a b : Int) : Nat → Int
 | 0 => -1
 | k + 1 => if coversM k a && coversM k b && (decide (bestJ a b k < 0) || coversM (bestJ a b k) k) then k else bestJ a b k
theorem bestJ_out {a b : Int} (h : (modeR a && modeR b) = false) : ∀ k, bestJ a b k = -1
 | 0 => rfl
 | k + 1 => by
  unfold bestJ
  rw [bestJ_out h k]
  have : (coversM k a && coversM k b) = false := by
   unfold coversM
   cases ha : modeR a
   ·simp
   ·rw [ha] at h
    simp at h
    simp [h]
  rw [this]
  simp
theorem bestJ_join (a b : Int) : joinM a b = if bestJ a b 7 < 0 then 0 else bestJ a b 7 := by
 cases h : (modeR a && modeR b)
 ·rw [bestJ_out h 7]
  unfold joinM
  rw [h]
  rfl
 ·rw [Bool.and_eq_true] at h
  rcases modeR_cases h.1 with rfl | rfl | rfl | rfl | rfl | rfl | rfl <;> rcases modeR_cases h.2 with rfl | rfl | rfl | rfl | rfl | rfl | rfl <;> decide
set_option maxHeartbeats 4000000 in
theorem rJoin_ok (a b : Int) (w : World) : Calls Tryz.prog 172 #[.int .i64 a, .int .i64 b] w fun e w' => e = .returned (.int .i64 (joinM a b)) ∧ Kept (fun _ => False) w w' := by
 rw [bestJ_join]
 have HCV := Lib.hid (show ∀ (x y : Int) (W : World), Calls Tryz.prog 54 #[.int .i64 x, .int .i64 y] W fun e w' => e = .returned (.bool (coversM x y)) ∧ Kept (fun _ => False) W w' from rCovers_ok)
 obtain ⟨res, hres⟩ : ∃ r, (if bestJ a b 7 < 0 then (0 : Int) else bestJ a b 7) = r := ⟨_, rfl⟩
 have HRES := Lib.hid hres
 rw [hres]
 clear hres
 go_enter Tryz.func172, Tryz.ntmps172
 go_wp2_with fail
 go_loopw [5, 6] (fun t i wr => ∃ k : Nat, k ≤ 7 ∧ i = .int .i64 k ∧ t = .int .i64 (bestJ a b k) ∧ Kept (fun _ => False) w wr) (fun _ i _ => 7 - (intOf i).toNat)
 case atStart => exact ⟨0, by omega, rfl, rfl, Kept.refl _ _⟩
 case round =>
  obtain ⟨k, hk, rfl, rfl, hb⟩ := hrel
  have HB := Lib.hid hb
  clear hb
  by_cases hlt : k < 7
  ·have hki : (k : Int) ≤ 6 := by omega
   have HST := Lib.hid (show bestJ a b (k + 1) = if coversM k a && coversM k b && (decide (bestJ a b k < 0) || coversM (bestJ a b k) k) then (k : Int) else bestJ a b k from rfl)
   obtain ⟨t, ht⟩ : ∃ t, bestJ a b k = t := ⟨_, rfl⟩
   rw [ht] at HST ⊢
   clear ht
   cases c1 : coversM k a
   ·have HN := Lib.hid (show bestJ a b (k + 1) = t by rw [HST.out, c1]; rfl)
    have HC1 := Lib.hid (HCV.out k a wr)
    rw [c1] at HC1
    clear c1 HST
    go_wp2_with (go_at_call 54; refine HC1.out.mono ?_; rintro e1 w1 ⟨rfl, hk1⟩; have HK1 := Lib.hid (HB.out.trans hk1 (fun _ h => h.elim)); clear hk1 HC1)
    go_roundw
    case rel => exact ⟨k + 1, by omega, by go_num, by rw [HN.out], HK1.out⟩
    case measure => simp [intOf]; omega
   cases c2 : coversM k b
   ·have HN := Lib.hid (show bestJ a b (k + 1) = t by rw [HST.out, c1, c2]; rfl)
    have HC1 := Lib.hid (HCV.out k a wr)
    rw [c1] at HC1
    have HC2 := Lib.hid (show ∀ W, _ from HCV.out k b)
    rw [c2] at HC2
    clear c1 c2 HST
    go_wp2_with (first | (go_at_call 54; refine HC1.out.mono ?_; rintro e1 w1 ⟨rfl, hk1⟩; have HK1 := Lib.hid (HB.out.trans hk1 (fun _ h => h.elim)); clear hk1 HC1) | (go_at_call 54; refine (HC2.out _).mono ?_; rintro e2 w2 ⟨rfl, hk2⟩; have HK2 := Lib.hid (HK1.out.trans hk2 (fun _ h => h.elim)); clear hk2 HC2))
    go_roundw
    case rel => exact ⟨k + 1, by omega, by go_num, by rw [HN.out], HK2.out⟩
    case measure => simp [intOf]; omega
   by_cases c3 : t < 0
   ·have HN := Lib.hid (show bestJ a b (k + 1) = k by rw [HST.out, c1, c2, decide_eq_true c3]; rfl)
    have HC1 := Lib.hid (HCV.out k a wr)
    rw [c1] at HC1
    have HC2 := Lib.hid (show ∀ W, _ from HCV.out k b)
    rw [c2] at HC2
    clear c1 c2 HST
    go_wp2_with (first | (go_at_call 54; refine HC1.out.mono ?_; rintro e1 w1 ⟨rfl, hk1⟩; have HK1 := Lib.hid (HB.out.trans hk1 (fun _ h => h.elim)); clear hk1 HC1) | (go_at_call 54; refine (HC2.out _).mono ?_; rintro e2 w2 ⟨rfl, hk2⟩; have HK2 := Lib.hid (HK1.out.trans hk2 (fun _ h => h.elim)); clear hk2 HC2))
    go_roundw
    case rel => exact ⟨k + 1, by omega, by go_num, by rw [HN.out], HK2.out⟩
    case measure => simp [intOf]; omega
   cases c4 : coversM t k
   all_goals
    have HN := Lib.hid (show bestJ a b (k + 1) = if coversM t k then (k : Int) else t by rw [HST.out, c1, c2, decide_eq_false c3]; rfl)
    rw [c4] at HN
    have HC1 := Lib.hid (HCV.out k a wr)
    rw [c1] at HC1
    have HC2 := Lib.hid (show ∀ W, _ from HCV.out k b)
    rw [c2] at HC2
    have HC3 := Lib.hid (show ∀ W, _ from HCV.out t k)
    rw [c4] at HC3
    clear c1 c2 c4 HST
    go_wp2_with (first | (go_at_call 54; refine HC1.out.mono ?_; rintro e1 w1 ⟨rfl, hk1⟩; have HK1 := Lib.hid (HB.out.trans hk1 (fun _ h => h.elim)); clear hk1 HC1) | (go_at_call 54; refine (HC2.out _).mono ?_; rintro e2 w2 ⟨rfl, hk2⟩; have HK2 := Lib.hid (HK1.out.trans hk2 (fun _ h => h.elim)); clear hk2 HC2) | (go_at_call 54; refine (HC3.out _).mono ?_; rintro e3 w3 ⟨rfl, hk3⟩; have HK3 := Lib.hid (HK2.out.trans hk3 (fun _ h => h.elim)); clear hk3 HC3))
    go_roundw
    case rel => exact ⟨k + 1, by omega, by go_num, by rw [HN.out]; rfl, HK3.out⟩
    case measure => simp [intOf]; omega
  ·have hki : ¬ (k : Int) ≤ 6 := by omega
   obtain rfl : k = 7 := by omega
   obtain ⟨t, ht⟩ : ∃ t, bestJ a b 7 = t := ⟨_, rfl⟩
   rw [ht] at HRES ⊢
   clear ht
   by_cases c3 : t < 0
   ·have HR := Lib.hid (show (0 : Int) = res by rw [← HRES.out, if_pos c3])
    go_wp2_with fail
    go_ret
    exact ⟨by rw [← HR.out]; rfl, HB.out⟩
   ·have HR := Lib.hid (show t = res by rw [← HRES.out, if_neg c3])
    go_wp2_with fail
    go_ret
    exact ⟨by rw [← HR.out]; rfl, HB.out⟩
end Go.Proofs.YtgljdkjepdknnaaGreatDoor

/- The document's answer: whether a row is one of some, whether a claim covers another (ratlineref09.In, Covers). -/
namespace Go.Proofs.YtgljdkjepdknnaaGreatDoor
open Go.ChangeShapes Go.WideShapes Go.ChangeAt Go.RowKit
set_option maxRecDepth 100000
set_option linter.unusedSimpArgs false

set_option maxHeartbeats 4000000 in
theorem rIn_ok {w : World} {v u : Value} {xs : List (List Val)} {y : List Val} (h1 : RowsRd w v xs) (h2 : RowRd w u y) :
  Calls Tryz.prog 55 #[v, u] w fun e w' => e = .returned (.bool (imgIn xs y)) ∧ Kept (fun _ => False) w w' := by
 obtain ⟨a1, c1, rfl, n1, m1, _⟩ := h1.shape
 obtain ⟨ua, un, uc, rfl⟩ : ∃ a n c, u = .slice a n c := by obtain ⟨_, _, a, c, h, _⟩ := id h2; exact ⟨a, _, c, h⟩
 have H1 := Lib.hid h1
 have H2 := Lib.hid h2
 clear h1 h2
 obtain ⟨N, hN⟩ : ∃ N, xs.length = N := ⟨_, rfl⟩
 have HN := Lib.hid hN
 have HI := Lib.hid (show imgIn xs y = xs.any (fun x => decide (x = y)) from rfl)
 rw [hN] at H1 n1 m1 ⊢
 clear hN
 go_enter Tryz.func55, Tryz.ntmps55
 go_wp2_with fail
 go_loopw [5] (fun i wr => ∃ j : Nat, i = .int .i64 j ∧ j ≤ N ∧ (xs.take j).any (fun x => decide (x = y)) = false ∧ Kept (fun _ => False) w wr) (fun i _ => N - (intOf i).toNat)
 case atStart => exact ⟨0, rfl, by omega, rfl, Kept.refl _ _⟩
 case round =>
  obtain ⟨j, rfl, hj, hn, hk⟩ := hrel
  have HNO := Lib.hid hn
  have HK := Lib.hid hk
  clear hn hk
  by_cases hlt : j < N
  ·have hji : (j : Int) < (N : Int) := by omega
   obtain ⟨r, hr⟩ : ∃ r, xs[j]? = some r := ⟨xs[j]'(by rw [HN.out]; exact hlt), List.getElem?_eq_getElem _⟩
   obtain ⟨g1, o1, ra1, rc1, hg1, y1, hrow1, hl1, hrc1⟩ := rowAtR (H1.out.kept HK.out) hr
   have HRJ := Lib.hid hr
   subst hg1
   have HC := Lib.hid (rsame_ok hrow1 (H2.out.kept HK.out (fun _ _ h => h)))
   clear hr hrow1
   obtain ⟨b, hb⟩ : ∃ b, decide (r = y) = b := ⟨_, rfl⟩
   rw [hb] at HC
   have HB := Lib.hid hb
   clear hb
   generalize r.length = rl at *
   cases b
   ·go_wp2_with (go_at_call 96; refine HC.out.mono ?_; rintro e3 w3 ⟨rfl, n3, rfl⟩; have HK3 := Lib.hid (HK.out.drewN n3); clear HC y1)
    go_roundw
    case rel => exact ⟨j + 1, by go_num, by omega, by rw [any_snoc _ HRJ.out, HNO.out, HB.out]; rfl, HK3.out⟩
    case measure => simp [intOf]; omega
   ·go_wp2_with (go_at_call 96; refine HC.out.mono ?_; rintro e3 w3 ⟨rfl, n3, rfl⟩; have HK3 := Lib.hid (HK.out.drewN n3); clear HC y1)
    go_ret
    exact ⟨by rw [HI.out, any_of_at _ HRJ.out HB.out]; rfl, HK3.out⟩
  ·have hji : ¬ ((j : Int) < (N : Int)) := by omega
   obtain rfl : j = N := by omega
   have HF := Lib.hid (show imgIn xs y = false by have := HNO.out; rw [List.take_of_length_le (Nat.le_of_eq HN.out)] at this; rw [HI.out]; exact this)
   go_wp2_with fail
   go_ret
   exact ⟨by rw [HF.out]; rfl, HK.out⟩
theorem all_snoc {α : Type} (q : α → Bool) {l : List α} {j : Nat} {x : α} (h : l[j]? = some x) : (l.take (j + 1)).all q = ((l.take j).all q && q x) := by
 rw [List.take_add_one, h]; simp
theorem all_not_at {α : Type} (q : α → Bool) {l : List α} {j : Nat} {x : α} (h : l[j]? = some x) (hq : q x = false) : l.all q = false := by
 rw [Bool.eq_false_iff]; intro ha; rw [List.all_eq_true.1 ha x (List.mem_of_getElem? h)] at hq; cases hq
set_option maxHeartbeats 8000000 in
theorem rCov_ok {w : World} {x y : ClmE} (hx : RdCl w x) (hy : RdCl w y) : Calls Tryz.prog 20 #[.agg x.cells.toArray, .agg y.cells.toArray] w fun r w' => r = .returned (.bool (RC.cov x.c y.c)) ∧ Kept (fun _ => False) w w' := by
 obtain ⟨W1, hW1, hk1, hb1, hb2⟩ := alloc2p w x.cells.toArray y.cells.toArray tCl tCl
 have HP := Lib.hid (show RC.cov x.c y.c = (RC.same x.c y.c && coversM x.mode y.mode && y.imgs.all (fun r => imgIn x.imgs r)) from rfl)
 have HW1 := Lib.hid hW1
 have HK1 := Lib.hid hk1
 have HB1 := Lib.hid hb1
 have HB2 := Lib.hid hb2
 have HLX := Lib.hid (loadCl (blk_range hb1))
 have HLY := Lib.hid (loadCl (blk_range hb2))
 have HS := Lib.hid (rcSame_ok (hx.kept hk1) (hy.kept hk1))
 have HX := Lib.hid (hx.1.kept hk1)
 have HY := Lib.hid (hy.1.kept hk1)
 obtain ⟨ya, yc, hsl, n1, m1, _⟩ := hy.1.shape
 have HSL := Lib.hid hsl
 have HCV := Lib.hid (show ∀ W, Calls Tryz.prog 54 #[.int .i64 x.mode, .int .i64 y.mode] W fun e w' => e = .returned (.bool (coversM x.mode y.mode)) ∧ Kept (fun _ => False) W w' from rCovers_ok x.mode y.mode)
 obtain ⟨s, hs⟩ : ∃ s, RC.same x.c y.c = s := ⟨_, rfl⟩
 obtain ⟨m, hm⟩ : ∃ m, coversM x.mode y.mode = m := ⟨_, rfl⟩
 rw [hs] at HS HP
 rw [hm] at HCV HP
 obtain ⟨N, hN⟩ : ∃ N, y.imgs.length = N := ⟨_, rfl⟩
 have HN := Lib.hid hN
 rw [hsl] at HY
 rw [hN] at HY HSL n1 m1
 clear hN hW1 hk1 hb1 hb2 hx hy hs hm hsl
 go_enter Tryz.func20, Tryz.ntmps20
 go_upto_region 1 with fail
 rw [← HW1.out]
 clear HW1
 generalize w.heap.size + 1 = b2 at *
 generalize w.heap.size = b1 at *
 go_upto_region 2 with (first | (refine wpList_ld rfl _ _ rfl _ _ rfl _ HLX.out ?_) | (refine wpList_ld rfl _ _ rfl _ _ rfl _ HLY.out ?_) | (go_at_call 26; refine HS.out.mono ?_; rintro r2 w2 ⟨rfl, hk2⟩; have HK2 := Lib.hid hk2; clear hk2 HS HLX HLY))
 have HKE := Lib.hid (HK1.out.trans HK2.out (fun _ h => h.elim))
 have x2 := (boxClm2 (kept_blk HK2.out HB1.out)).1
 have y2 := (boxClm2 (kept_blk HK2.out HB2.out)).1
 cases s
 ·have HR := Lib.hid (show RC.cov x.c y.c = false by rw [HP.out]; rfl)
  clear HP
  go_wp2_with fail
  go_ret
  exact ⟨by rw [HR.out]; rfl, HKE.out⟩
 cases m
 ·have HR := Lib.hid (show RC.cov x.c y.c = false by rw [HP.out]; rfl)
  have HC2 := Lib.hid (HCV.out w2)
  clear HP HCV
  go_wp2_with (go_at_call 54; refine HC2.out.mono ?_; rintro r3 w3 ⟨rfl, hk3⟩; have HK3 := Lib.hid (HKE.out.trans hk3 (fun _ h => h.elim)); clear hk3 HC2 x2 y2)
  go_ret
  exact ⟨by rw [HR.out]; rfl, HK3.out⟩
 have HR := Lib.hid (show RC.cov x.c y.c = y.imgs.all (fun r => imgIn x.imgs r) by rw [HP.out]; rfl)
 have HC2 := Lib.hid (HCV.out w2)
 clear HP HCV
 go_upto_region 4 with (go_at_call 54; refine HC2.out.mono ?_; rintro r3 w3 ⟨rfl, hk3⟩; have HK3 := Lib.hid (HK2.out.trans hk3 (fun _ h => h.elim)); clear hk3 HC2 x2 y2)
 have HB1' := Lib.hid (kept_blk HK3.out HB1.out)
 have HB2' := Lib.hid (kept_blk HK3.out HB2.out)
 have HX' := Lib.hid (HX.out.kept HK3.out)
 have HY' := Lib.hid (HY.out.kept HK3.out)
 have HKF := Lib.hid (HK1.out.trans HK3.out (fun _ h => h.elim))
 clear HK1 HK2 HK3 HKE HB1 HB2 HX HY
 obtain ⟨y2, y6⟩ := boxClm2 HB2'.out
 rw [HSL.out] at y6
 go_wp2_with fail
 go_loopw [6] (fun i wr => ∃ j : Nat, i = .int .i64 j ∧ j ≤ N ∧ (y.imgs.take j).all (fun r => imgIn x.imgs r) = true ∧ Kept (fun _ => False) w3 wr) (fun i _ => N - (intOf i).toNat)
 case atStart => exact ⟨0, rfl, by omega, rfl, Kept.refl _ _⟩
 case round =>
  obtain ⟨j, rfl, hj, hn, hk⟩ := hrel
  have HNO := Lib.hid hn
  have HK := Lib.hid hk
  clear hn hk y2 y6
  have y6 := (boxClm2 (kept_blk HK.out HB2'.out)).2
  have x6 := (boxClm2 (kept_blk HK.out HB1'.out)).2
  rw [HSL.out] at y6
  by_cases hlt : j < N
  ·have hji : (j : Int) < (N : Int) := by omega
   obtain ⟨r, hr⟩ : ∃ r, y.imgs[j]? = some r := ⟨y.imgs[j]'(by rw [HN.out]; exact hlt), List.getElem?_eq_getElem _⟩
   obtain ⟨g2, o2, ra2, rc2, hg2, z2, hrow2, hl2, hrc2⟩ := rowAtR (HY'.out.kept HK.out) hr
   have HRJ := Lib.hid hr
   rw [hg2] at y6
   have HC := Lib.hid (rIn_ok (w := wr.drew) (HX'.out.kept HK.out.drew) (show RowRd wr.drew _ r from hrow2))
   obtain ⟨h, hh⟩ : ∃ h, imgIn x.imgs r = h := ⟨_, rfl⟩
   rw [hh] at HC
   have HH := Lib.hid hh
   clear hr hrow2 hh hg2
   generalize r.length = rl at *
   go_upto_region 7 with fail
   refine wp_region_canon [(0, false, 7), (1, false, 7), (2, false, 7), (3, false, 7), (4, false, 7), (5, false, 7), (6, false, 7), (7, true, 0), (8, false, 999)] (by kernel_rfl) (by kernel_rfl) ?_
   iterate 7 (refine wpCan_read rfl rfl (fun K hK => ?_); go_simp; refine hK _ ?_; clear hK K)
   refine wpCan_eff rfl ?_
   refine wpList_do rfl (fun K hK => ?_)
   go_simp
   refine HC.out.mono ?_
   rintro e4 w4 ⟨rfl, hk4⟩
   have HK4 := Lib.hid (HK.out.drew.trans hk4 (fun _ h => h.elim))
   clear hk4 HC y6 x6 z2
   refine hK _ _ ?_
   clear hK K
   refine wpList_nil ?_
   refine And.intro ?_ ?_
   ·go_simp
   iterate 1 (refine wpCan_read rfl rfl (fun K hK => ?_); go_simp; refine hK _ ?_; clear hK K)
   refine wpCan_nil ?_
   cases h
   ·go_wp2_with fail
    go_ret
    exact ⟨by rw [HR.out, all_not_at _ HRJ.out HH.out]; rfl, HKF.out.trans HK4.out (fun _ h => h.elim)⟩
   ·go_wp2_with fail
    go_roundw
    case rel => exact ⟨j + 1, by go_num, by omega, by rw [all_snoc _ HRJ.out, HNO.out, HH.out]; rfl, HK4.out⟩
    case measure => simp [intOf]; omega
  ·have hji : ¬ ((j : Int) < (N : Int)) := by omega
   obtain rfl : j = N := by omega
   have HF := Lib.hid (show y.imgs.all (fun r => imgIn x.imgs r) = true by have := HNO.out; rw [List.take_of_length_le (Nat.le_of_eq HN.out)] at this; exact this)
   go_wp2_with fail
   go_ret
   exact ⟨by rw [HR.out, HF.out]; rfl, HKF.out.trans HK.out (fun _ h => h.elim)⟩
end Go.Proofs.YtgljdkjepdknnaaGreatDoor

/- The document's answer: one claim in the place of two (ratlineref09.Join). -/
namespace Go.Proofs.YtgljdkjepdknnaaGreatDoor
open Go.ChangeShapes Go.WideShapes Go.ChangeAt Go.RowKit
set_option maxRecDepth 100000
set_option linter.unusedSimpArgs false

theorem rowAtD {B w : World} {D : PH} {l : List HP} {ao : Option Addr} {N cap j : Nat} {rs : List (List Val)} {r : List Val} (h : RowsAt D (.slice ao N cap) rs) (hs : Sat B D w l) (hr : rs[j]? = some r) :
  ∃ g o ra rc, ao = some ⟨g, o, none⟩ ∧ w.cell? ⟨g, o + j, none⟩ = some (.slice ra r.length rc) ∧ RowRd w (.slice ra r.length rc) r ∧ RowD D (.slice ra r.length rc) r ∧ r.length ≤ 9223372036854775807 ∧ r.length ≤ rc := by
 obtain ⟨hh, h1, hone, h2, h3⟩ := h
 have hlt : j < rs.length := (List.getElem?_eq_some_iff.1 hr).1
 obtain ⟨hv, hhv⟩ : ∃ hv, hh[j]? = some hv := ⟨hh[j]'(by omega), List.getElem?_eq_getElem (by omega)⟩
 obtain ⟨g, o, ra, rc, ha, hc, hrow, hl, hrc⟩ := rowAtR (RowsAt.rd hs ⟨hh, h1, hone, h2, h3⟩) hr
 have hrd := h2.rd hs
 obtain ⟨_, _, ao', cap', hvv, _, _, _, hcc⟩ := hrd
 have e : w.cell? ⟨g, o + j, none⟩ = some hv := by
  rcases hcc with h0 | ⟨g', o', hg, hcell⟩
  ·omega
  ·cases hvv
   rw [ha] at hg
   cases hg
   exact hcell j hv hhv
 rw [hc] at e
 obtain rfl := Option.some.inj e
 exact ⟨g, o, ra, rc, ha, hc, hrow, h3 j _ r hhv hr, hl, hrc⟩
set_option maxHeartbeats 8000000 in
theorem rcJoin_ok {B w : World} {D : PH} {l : List HP} {x y : ClmE} (hx : ClOk D x) (hy : ClOk D y) (hsx : ClmSm 1000000 x.c) (hsy : ClmSm 1000000 y.c) (hs : Sat B D w l) :
  Calls Tryz.prog 146 #[.agg x.cells.toArray, .agg y.cells.toArray] w (JoinedC B D l (RC.join x.c y.c)) := by
 obtain ⟨i0, hi, hz0, hz1, hz2⟩ := info_parts infoRow
 have HI := Lib.hid (And.intro hi (And.intro hz0 (And.intro hz1 hz2)))
 obtain ⟨W1, hW1, hs1⟩ := three_new hs x.cells.toArray y.cells.toArray cZ tCl tCl tCl
 have HS1 := Lib.hid hs1
 have HW1 := Lib.hid hW1
 have HX := Lib.hid hx
 have HY := Lib.hid hy
 have HSY := Lib.hid hsy
 have hN1 : x.imgs.length ≤ 1000000 := hsx.1
 have hM1 : y.imgs.length ≤ 1000000 := hsy.1
 have HLX := Lib.hid (loadCl (blk_range (hs1.blk 0 rfl)))
 have HLY := Lib.hid (loadCl (blk_range (hs1.blk 1 rfl)))
 have HSS := Lib.hid (rcSame_ok (hx.rd hs1) (hy.rd hs1))
 clear hi hz0 hz1 hz2 hx hy hs hs1 hW1 hsx hsy
 cases hsame : RC.same x.c y.c
 ·have HJ := Lib.hid (show RC.join x.c y.c = x.c from if_neg (by rw [show clmSame x.c y.c = false from hsame]; simp))
  rw [HJ.out]
  rw [hsame] at HSS
  clear hsame
  go_enter Tryz.func146, Tryz.ntmps146
  go_upto_region 1 with fail
  rw [← HW1.out]
  clear HW1
  generalize w.heap.size + 1 + 1 = b3 at *
  generalize w.heap.size + 1 = b2 at *
  generalize w.heap.size = b1 at *
  go_wp2_with (first | (refine wpList_ld rfl _ _ rfl _ _ rfl _ HLX.out ?_) | (refine wpList_ld rfl _ _ rfl _ _ rfl _ HLY.out ?_) | (go_at_call 26; refine HSS.out.mono ?_; rintro e5 w5 ⟨rfl, hk5⟩; have hs5 := HS1.out.kept hk5; have HL5 := Lib.hid (loadCl (blk_range (hs5.blk 0 rfl))); have HS5 := Lib.hid (hs5.front 2 rfl); clear hs5 hk5 HSS HLX HLY HS1) | (refine wpList_ld rfl _ _ rfl _ _ rfl _ HL5.out ?_) | (refine wpList_store_whole rfl _ _ _ rfl tCl b3 rfl x.cells rfl cZ HS5.out (by kernel_rfl) rfl (ClmE.one _) ?_; intro w6 hs6; have HS6 := Lib.hid hs6; clear hs6 HS5 HL5))
  refine bodyPost_ret (results_c1 rfl _ _ rfl (loadCl (blk_range (HS6.out.blk 0 rfl)))) rfl ?_
  exact ⟨x, D, rfl, rfl, PH.le.refl _, HX.out, HS6.out.drop.drop.drop⟩
 ·have HJ := Lib.hid (show RC.join x.c y.c = { x.c with mode := joinM x.mode y.mode, imgs := imgJoin x.imgs y.imgs } from if_pos hsame)
  rw [HJ.out]
  rw [hsame] at HSS
  clear hsame
  obtain ⟨hx0, hxl, hx1, hxp, hxr⟩ := HX.out.1
  have HRH := Lib.hid (show RowsH D hx0 x.imgs from ⟨hxl, hxr⟩)
  have HX1 := Lib.hid hx1
  have HXP := Lib.hid hxp
  obtain ⟨ia, il, hil, _⟩ : ∃ a c, Value.slice y.ia y.il y.ic = .slice a y.imgs.length c ∧ y.imgs.length ≤ c ∧ y.imgs.length ≤ 9223372036854775807 ∧ c ≤ 9223372036854775807 := (HY.out.1.rd HS1.out).shape
  have HIL := Lib.hid (Value.slice.inj hil).2.1
  clear hxl hx1 hxp hxr hil
  go_enter Tryz.func146, Tryz.ntmps146
  go_upto_region 1 with fail
  rw [← HW1.out]
  clear HW1
  generalize w.heap.size + 1 + 1 = b3 at *
  generalize w.heap.size + 1 = b2 at *
  generalize w.heap.size = b1 at *
  go_upto_region 4 with (first | (refine wpList_ld rfl _ _ rfl _ _ rfl _ HLX.out ?_) | (refine wpList_ld rfl _ _ rfl _ _ rfl _ HLY.out ?_) | (go_at_call 26; refine HSS.out.mono ?_; rintro e5 w5 ⟨rfl, hk5⟩; have HS5 := Lib.hid (HS1.out.kept hk5); clear hk5 HSS HLX HLY HS1))
  have x2 := (boxClm2 (HS5.out.blk 0 rfl)).1
  have y2 := (boxClm2 (HS5.out.blk 1 rfl)).1
  have HJM := Lib.hid (rJoin_ok x.mode y.mode w5)
  have HJV := Lib.hid (show ∃ m, m = joinM x.mode y.mode from ⟨_, rfl⟩)
  obtain ⟨jm, hjm⟩ := HJV.out
  have HMV := Lib.hid hjm
  rw [← hjm] at HJM
  clear hjm HJV
  go_upto_region 5 with (go_at_call 172; refine HJM.out.mono ?_; rintro e6 w6 ⟨rfl, hk6⟩; have hs6 := HS5.out.kept hk6; have z2 := (boxClm2 (hs6.blk 0 rfl)).1; have zf := frz (hs6.blk 0 rfl); have HS6 := Lib.hid (Sat.setM hs6 jm); clear hs6 hk6 HJM HS5 x2 y2)
  obtain ⟨W6, hW6, hs6⟩ := Sat.hide HS6.out
  rw [← hW6]
  clear hW6 HS6 z2 zf
  have HXR := Lib.hid (show Rd W6 1 (.slice x.ia x.il x.ic) x.imgs.length hx0 by have := HXP.out.rd hs6; exact this)
  have HSN := Lib.hid (hs6.own_nil tRw 1)
  have x6 := boxI (hs6.blk 0 rfl)
  have y6 := boxI (hs6.blk 1 rfl)
  rw [HIL.out] at y6
  clear hs6
  generalize hM : y.imgs.length = M at *
  have HM := Lib.hid hM
  clear hM
  go_upto_region 7 with (refine wpList_append_Sat _ rfl _ _ 32 rfl tRw i0 _ 1 24 Tryz.underlying32 HI.out.1 HI.out.2.1 HI.out.2.2.1 HI.out.2.2.2 rfl _ 0 _ rfl HSN.out _ x.imgs.length _ rfl HXR.out HX1.out (by unfold maxLen; omega) (by omega) ?_; intro v7 w7 hs7 h17; obtain ⟨va7, vc7, rfl⟩ := hs7.own_shape; have HS7 := Lib.hid hs7; clear hs7 h17 HSN HXR x6 y6)
  have HS8 := Lib.hid (show Sat B D w7 (ownS tRw 1 (.slice va7 x.imgs.length vc7) x.imgs.length hx0 :: blk b1 (x.layM jm).cells.toArray tCl :: blk b2 y.cells.toArray tCl :: blk b3 cZ tCl :: l) from by have := HS7.out; rw [Nat.zero_add, List.nil_append] at this; exact this)
  clear HS7
  have y6 := boxI (HS8.out.blk 2 rfl)
  rw [HIL.out] at y6
  go_wp2_with fail
  go_loopw [6, 7] (fun sv i wr => ∃ (j n : Nat) (va : Option Addr) (vc : Nat) (hs : List Value) (rs : List (List Val)), i = .int .i64 j ∧ sv = .slice va n vc ∧ j ≤ M ∧ rs = imgJoin x.imgs (y.imgs.take j) ∧ n = rs.length ∧ RowsH D hs rs ∧ Sat B D wr (ownS tRw 1 (.slice va n vc) n hs :: blk b1 (x.layM jm).cells.toArray tCl :: blk b2 y.cells.toArray tCl :: blk b3 cZ tCl :: l)) (fun _ i _ => M - (intOf i).toNat)
  case atStart => exact ⟨0, x.imgs.length, va7, vc7, hx0, x.imgs, rfl, rfl, by omega, rfl, rfl, HRH.out, HS8.out⟩
  case round =>
   obtain ⟨j, n, va, vc, hs, rs, rfl, rfl, hj, hrs, hn, hrh, hs3⟩ := hrel
   have HRS := Lib.hid hrs
   have hn2 : n ≤ 2000000 := by have := (imgJoin_len x.imgs (y.imgs.take j)).2; rw [← hrs, List.length_take] at this; omega
   have HNR := Lib.hid hn
   have HRH2 := Lib.hid hrh
   have HS3 := Lib.hid hs3
   clear y6
   have y6 := boxI (hs3.blk 2 rfl)
   rw [HIL.out] at y6
   clear hrs hn hrh hs3
   by_cases hlt : j < M
   ·have hji : (j : Int) < (M : Int) := by omega
    obtain ⟨r, hr⟩ : ∃ r, y.imgs[j]? = some r := ⟨y.imgs[j]'(by rw [HM.out]; exact hlt), List.getElem?_eq_getElem _⟩
    obtain ⟨g, og, ra, rc, hga, y0, hrow, hrd, hrl, hrc⟩ := rowAtD (by have := HY.out.1; rw [HIL.out] at this; exact this) HS3.out hr
    have HGA := Lib.hid hga
    have HR := Lib.hid hr
    have HIN := Lib.hid (rIn_ok (HRH2.out.rd HS3.out (by rw [HRH2.out.1, ← HNR.out]; exact (HS3.out.own 0 rfl).rd)) hrow)
    have HSTEP := Lib.hid (show imgJoin x.imgs (y.imgs.take (j + 1)) = if imgIn rs r then rs else rs ++ [r] by rw [imgJoin_step hr, ← HRS.out])
    rw [HGA.out] at y6
    clear hr hrow hga hrd
    cases hin : imgIn rs r
    ·rw [hin] at HIN HSTEP
     clear hin
     go_upto_region 12 with (go_at_call 55; refine HIN.out.mono ?_; rintro e8 w8 ⟨rfl, hk8⟩; have HS4 := Lib.hid (HS3.out.kept hk8); clear hk8 HIN HS3 y6 y0)
     obtain ⟨g, og, ra, rc, hga, y0, hrow, hrd, hrl, hrc⟩ := rowAtD (by have := HY.out.1; rw [HIL.out] at this; exact this) HS4.out HR.out
     have HRD := Lib.hid hrd
     have HGA := Lib.hid hga
     clear hrow hrd hga
     have y6 := boxI (HS4.out.blk 2 rfl)
     rw [HIL.out, HGA.out] at y6
     have HSA := Lib.hid ((HS4.out.alloc #[.slice ra r.length rc] tRw).front 1 rfl)
     have HRB := Lib.hid (rd_block (size := 1) (n := 1) ((HS4.out.alloc #[.slice ra r.length rc] tRw).blk 0 rfl) rfl (by unfold maxLen; omega))
     go_wp2_with (refine wpList_append_Sat _ rfl _ _ 32 rfl tRw i0 _ 1 24 Tryz.underlying32 HI.out.1 HI.out.2.1 HI.out.2.2.1 HI.out.2.2.2 rfl _ n _ rfl HSA.out _ 1 _ rfl HRB.out (by intro u hu; simp at hu; subst hu; rfl) (by unfold maxLen; omega) (by omega) ?_; intro v7 w7 hs7 h17; obtain ⟨va7, vc7, rfl⟩ := hs7.own_shape; have HS7 := Lib.hid hs7; clear hs7 h17 HSA HRB HS4 y6 y0)
     have HSF := Lib.hid (show Sat B D w7 (ownS tRw 1 (.slice va7 (n + 1) vc7) (n + 1) (hs ++ [Value.slice ra r.length rc]) :: blk b1 (x.layM jm).cells.toArray tCl :: blk b2 y.cells.toArray tCl :: blk b3 cZ tCl :: l) from (Sat.front (show Sat B D w7 (ownS tRw 1 (.slice va7 (n + 1) vc7) (n + 1) (hs ++ [Value.slice ra r.length rc]) :: blk w8.heap.size #[Value.slice ra r.length rc] tRw :: blk b1 (x.layM jm).cells.toArray tCl :: blk b2 y.cells.toArray tCl :: blk b3 cZ tCl :: l) from HS7.out) 1 rfl).drop)
     have HRN := Lib.hid (HRH2.out.snoc HRD.out)
     clear HS7
     go_roundw
     case rel => exact ⟨j + 1, n + 1, va7, vc7, hs ++ [Value.slice ra r.length rc], rs ++ [r], by go_num, rfl, by omega, by rw [HSTEP.out]; rfl, by rw [List.length_append, HNR.out]; rfl, HRN.out, HSF.out⟩
     case measure => simp [intOf]; omega
    ·rw [hin] at HIN HSTEP
     clear hin
     go_wp2_with (go_at_call 55; refine HIN.out.mono ?_; rintro e8 w8 ⟨rfl, hk8⟩; have HS4 := Lib.hid (HS3.out.kept hk8); clear hk8 HIN HS3 y6 y0)
     go_roundw
     case rel => exact ⟨j + 1, n, va, vc, hs, rs, by go_num, rfl, by omega, by rw [HSTEP.out]; rfl, HNR.out, HRH2.out, HS4.out⟩
     case measure => simp [intOf]; omega
   ·have hji : ¬ ((j : Int) < (M : Int)) := by omega
    have hjM : j = M := by omega
    subst hjM
    have x6 := boxI (HS3.out.blk 1 rfl)
    have xf := frz (HS3.out.blk 1 rfl)
    have HS5 := Lib.hid (Sat.setI (HS3.out.front 1 rfl) va n vc rs)
    go_upto_region 14 with fail
    obtain ⟨W9, hW9, hs9⟩ := Sat.hide HS5.out
    rw [← hW9]
    clear hW9 HS5 HS3 x6 xf y6
    have HL9 := Lib.hid (loadCl (blk_range (hs9.blk 0 rfl)))
    have HS9 := Lib.hid (show Sat B D W9 (blk b3 cZ tCl :: blk b1 ((x.layM jm).layI va n vc rs).cells.toArray tCl :: ownS tRw 1 (.slice va n vc) n hs :: blk b2 y.cells.toArray tCl :: l) from hs9.front 3 rfl)
    clear hs9
    go_wp2_with (first | (refine wpList_ld rfl _ _ rfl _ _ rfl _ HL9.out ?_) | (refine wpList_store_whole rfl _ _ _ rfl tCl b3 rfl ((x.layM jm).layI va n vc rs).cells rfl cZ HS9.out (by kernel_rfl) rfl (ClmE.one _) ?_; intro w6 hs6; have HS6 := Lib.hid hs6; clear hs6 HS9 HL9))
    refine bodyPost_ret (results_c1 rfl _ _ rfl (loadCl (blk_range (HS6.out.blk 0 rfl)))) rfl ?_
    have h8 := HS6.out.rot.rot
    obtain ⟨D5, hle5, hrd5, hs5⟩ := h8.own_give
    have hrs : rs = imgJoin x.imgs y.imgs := by rw [HRS.out, ← HM.out, List.take_length]
    refine ⟨(x.layM jm).layI va n vc rs, D5, rfl, ?_, hle5, ⟨?_, HX.out.2.mono hle5⟩, hs5.drop.drop.drop⟩
    ·show Clm.mk x.kind x.table jm x.key rs x.pr.p = Clm.mk x.kind x.table (joinM x.mode y.mode) x.key (imgJoin x.imgs y.imgs) x.pr.p
     rw [HMV.out, hrs]
    ·refine (HRH2.out.mono hle5).at ?_ (h8.own 0 rfl).2.1
     rw [HRH2.out.1, ← HNR.out]; exact hrd5
end Go.Proofs.YtgljdkjepdknnaaGreatDoor
