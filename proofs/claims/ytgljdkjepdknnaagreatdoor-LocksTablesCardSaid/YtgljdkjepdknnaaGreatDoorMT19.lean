/- Joined texts: Openings of a claim, with the bounds of its strings. (printed by genfopenf.py) The document's answer: Covers of any two numbers, and Join (ratlineref08). The document's answer: whether a row is one of some, whether a claim covers another (ratlineref09.In, Covers). The document's answer: one claim in the place of two (ratlineref09.Join). -/
import Derived.Test.YtgljdkjepdknnaaGreatDoorMT17
import Derived.Test.YtgljdkjepdknnaaGreatDoorMT18
import Derived.Test.YtgljdkjepdknnaaGreatDoorMT16
import Derived.Test.YtgljdkjepdknnaaGreatDoorMT12
set_option maxHeartbeats 64000000
namespace Go.Proofs.YtgljdkjepdknnaaGreatDoor
open Go.ChangeShapes Go.WideShapes Go.ChangeAt Go.RowKit Go.Deep
set_option maxRecDepth 100000
set_option linter.unusedSimpArgs false
section
variable {H : Type} {enc : TypeId × Value → H} {w : World} {base : Nat} {spare : Nat → Bool} {held : Bool}
theorem gE {fuel : Nat} {cs : List Value} {x : DataW H × List MemPlace} (h : DataW.trod enc Tryz.prog w base spare held fuel 31 cs = some x) : ∃ v : Val, cs = v.cells ∧ v.fits := by
 obtain ⟨y0, y1, y2, n, _, hl, t0, t1, t2⟩ := rA Tryz.underlying31 h
 rw [gI] at hl
 simp only [jW, pN, qM] at t0 t1 t2
 match cs, hl with
 | [c0, c1, c2], _ =>
  simp only [List.drop, List.take] at t0 t1 t2
  obtain ⟨b, hb, _⟩ := DataW.trod_bool Tryz.underlying4 t0
  obtain ⟨z, hz, _, wz⟩ := DataW.trod_int Tryz.underlying2 t1
  obtain ⟨s, hs, _, ws⟩ := DataW.trod_string Tryz.underlying9 t2
  simp only [List.cons.injEq, and_true] at hb hz hs
  subst hb hz hs
  exact ⟨⟨b, z, s⟩, rfl, ws⟩
theorem ou : ∀ (fuel : Nat) {cs : List Value} {x : DataW H × List MemPlace}, DataW.trod enc Tryz.prog w base spare held fuel 35 cs = some x → ∃ e : PredE, cs = e.cells ∧ PredsRd w (.slice e.la e.ln e.lc) e.subs ∧ PredFit e.p := by
 intro fuel
 induction fuel using Nat.strongRecOn with
 | _ fuel ih =>
  intro cs x h
  obtain ⟨y0, y1, y2, y3, y4, n, hn, hl, t0, t1, t2, t3, t4⟩ := rj Tryz.underlying35 h
  rw [jV] at hl
  simp only [iQ, gI, qO] at t0 t1 t2 t3 t4
  match cs, hl with
  | [c0, c1, c2, c3, c4, c5, c6, c7, c8], _ =>
   simp only [List.drop, List.take] at t0 t1 t2 t3 t4
   obtain ⟨z0, hz0, _, _⟩ := DataW.trod_int Tryz.underlying3 t0
   obtain ⟨z1, hz1, _, _⟩ := DataW.trod_int Tryz.underlying3 t1
   obtain ⟨v, hv, fv⟩ := gE t2
   obtain ⟨u, hu, fu⟩ := gE t3
   obtain ⟨s, es, hs, hrd, hes⟩ := io (f := PredE.cells) (G := fun e : PredE => PredsRd w (.slice e.la e.ln e.lc) e.subs ∧ PredFit e.p) Tryz.underlying33 jV (by omega) PredE.len (fun m hm cs d hd => ih m (by omega) hd) t4
   simp only [List.cons.injEq, and_true] at hz0 hz1 hs
   simp only [Val.cells, List.cons.injEq, and_true] at hv hu
   obtain ⟨rfl, rfl, rfl⟩ := hv
   obtain ⟨rfl, rfl, rfl⟩ := hu
   subst hz0 hz1 hs
   obtain ⟨_, _, la, lc, rfl, _⟩ := id hrd
   exact ⟨⟨z0, z1, v, u, la, es.length, lc, es.map PredE.p⟩, rfl, .mk _ es hrd (fun e he => (hes e he).1), .mk z0 z1 v u _ fv fu (fun q hq => by obtain ⟨e, he, rfl⟩ := List.mem_map.1 hq; exact (hes e he).2)⟩
theorem pR {fuel : Nat} {cs : List Value} {x : DataW H × List MemPlace} (h : DataW.trod enc Tryz.prog w base spare held fuel 91 cs = some x) : ∃ (v : Value) (r : List Val), cs = [v] ∧ cO w v r ∧ ∀ a ∈ r, a.fits := by
 obtain ⟨v, r, hc, hrd, hf⟩ := io (f := Val.cells) (G := fun a : Val => a.fits) Tryz.underlying91 gI (by omega) Val.len (fun m hm cs d hd => by exact gE hd) h
 exact ⟨v, r, hc, hrd, hf⟩
theorem nP {fuel : Nat} {cs : List Value} {x : DataW H × List MemPlace} (h : DataW.trod enc Tryz.prog w base spare held fuel 32 cs = some x) : ∃ (v : Value) (rs : List (List Val)), cs = [v] ∧ RowsRd w v rs ∧ ∀ r ∈ rs, ∀ a ∈ r, a.fits := by
 obtain ⟨v, l, hc, hrd, hl⟩ := io (f := fun a : Value × List Val => [a.1]) (G := fun a : Value × List Val => cO w a.1 a.2 ∧ ∀ z ∈ a.2, z.fits) Tryz.underlying32 pM (by omega) (fun _ => rfl) (fun m hm cs d hd => by obtain ⟨v, r, he, hr⟩ := pR hd; exact ⟨(v, r), he, hr⟩) h
 rw [qX] at hrd
 refine ⟨v, l.map Prod.snd, hc, ⟨l.map Prod.fst, by simp, by simpa using hrd, fun i u r hu hr => ?_⟩, fun r hr => by obtain ⟨a, ha, rfl⟩ := List.mem_map.1 hr; exact (hl a ha).2⟩
 rw [List.getElem?_map] at hu hr
 cases hx : l[i]? with
 | none => rw [hx] at hu; cases hu
 | some a =>
  rw [hx] at hu hr
  obtain rfl := Option.some.inj hu
  obtain rfl := Option.some.inj hr
  exact (hl a (List.mem_of_getElem? hx)).1
theorem mJ {fuel : Nat} {cs : List Value} {x : DataW H × List MemPlace} (h : DataW.trod enc Tryz.prog w base spare held fuel 37 cs = some x) : ∃ c : ClmE, cs = c.cells ∧ RdCl w c ∧ bS c.c := by
 obtain ⟨y0, y1, y2, y3, y4, y5, n, hn, hl, t0, t1, t2, t3, t4, t5⟩ := sj Tryz.underlying37 h
 rw [nm] at hl
 simp only [iQ, gI, oP, nS, jV] at t0 t1 t2 t3 t4 t5
 match cs, hl with
 | [c0, c1, c2, c3, c4, c5, c6, c7, c8, c9, c10, c11, c12, c13, c14, c15], _ =>
  simp only [List.drop, List.take] at t0 t1 t2 t3 t4 t5
  obtain ⟨z0, hz0, _, _⟩ := DataW.trod_int Tryz.underlying3 t0
  obtain ⟨z1, hz1, _, _⟩ := DataW.trod_int Tryz.underlying3 t1
  obtain ⟨z2, hz2, _, _⟩ := DataW.trod_int Tryz.underlying29 t2
  obtain ⟨v, hv, _⟩ := gE t3
  obtain ⟨s, rs, hs, hrd, hrf⟩ := nP t4
  obtain ⟨p, hp, hpr, hpf⟩ := ou _ t5
  simp only [List.cons.injEq, and_true] at hz0 hz1 hz2 hs
  simp only [Val.cells, List.cons.injEq, and_true] at hv
  simp only [PredE.cells, List.cons.injEq, and_true] at hp
  obtain ⟨rfl, rfl, rfl⟩ := hv
  obtain ⟨rfl, rfl, rfl, rfl, rfl, rfl, rfl, rfl, rfl⟩ := hp
  subst hz0 hz1 hz2 hs
  obtain ⟨hs, h1, ⟨_, _, ia, ic, rfl, _⟩, _⟩ := id hrd
  exact ⟨⟨z0, z1, z2, v, ia, rs.length, ic, rs, p⟩, rfl, ⟨hrd, hpr⟩, hpf, hrf⟩
end
end Go.Proofs.YtgljdkjepdknnaaGreatDoor
namespace Go.Proofs.YtgljdkjepdknnaaGreatDoor
open Go.ChangeShapes Go.WideShapes Go.ChangeAt Go.RowKit
set_option maxRecDepth 100000
set_option linter.unusedSimpArgs false
theorem oQ (a b : Int) (h : a < 0 ∨ 6 < a ∨ b < 0 ∨ 6 < b) (w : World) :
  Calls Tryz.prog 54 #[.int .i64 a, .int .i64 b] w fun e w' => e = .returned (.bool false) ∧ w = w' := by
 by_cases h0 : a < 0
 ·go_enter Tryz.func54, Tryz.ntmps54
  go_wp2_with fail
  go_ret
  exact ⟨rfl, rfl⟩
 by_cases h1 : 6 < a
 ·have g1 : a > 6 := h1
  go_enter Tryz.func54, Tryz.ntmps54
  go_wp2_with fail
  go_ret
  exact ⟨rfl, rfl⟩
 have g1 : ¬ a > 6 := h1
 by_cases h2 : b < 0
 ·go_enter Tryz.func54, Tryz.ntmps54
  go_wp2_with fail
  go_ret
  exact ⟨rfl, rfl⟩
 have h3 : b > 6 := by omega
 go_enter Tryz.func54, Tryz.ntmps54
 go_wp2_with fail
 go_ret
 exact ⟨rfl, rfl⟩
theorem km (a b : Int) (w : World) : Calls Tryz.prog 54 #[.int .i64 a, .int .i64 b] w fun e w' => e = .returned (.bool (aN a b)) ∧ Kept (fun _ => False) w w' := by
 by_cases h : a < 0 ∨ 6 < a ∨ b < 0 ∨ 6 < b
 ·rw [← lF, show fO a b = false by unfold fO; rw [if_pos h]]
  exact (oQ a b h w).mono (fun e w' ⟨h1, h2⟩ => ⟨h1, h2 ▸ Kept.refl _ _⟩)
 ·exact nR a b ⟨by omega, by omega⟩ ⟨by omega, by omega⟩ w
def dK (a b : Int) : Nat → Int
 | 0 => -1
 | k + 1 => if aN k a && aN k b && (decide (dK a b k < 0) || aN (dK a b k) k) then k else dK a b k
theorem lg {a b : Int} (h : (br a && br b) = false) : ∀ k, dK a b k = -1
 | 0 => rfl
 | k + 1 => by
  unfold dK
  rw [lg h k]
  have : (aN k a && aN k b) = false := by
   unfold aN
   cases ha : br a
   ·simp
   ·rw [ha] at h
    simp at h
    simp [h]
  rw [this]
  simp
theorem oM (a b : Int) : dl a b = if dK a b 7 < 0 then 0 else dK a b 7 := by
 cases h : (br a && br b)
 ·rw [lg h 7]
  unfold dl
  rw [h]
  rfl
 ·rw [Bool.and_eq_true] at h
  rcases bB h.1 with rfl | rfl | rfl | rfl | rfl | rfl | rfl <;> rcases bB h.2 with rfl | rfl | rfl | rfl | rfl | rfl | rfl <;> decide
theorem rJ (a b : Int) (w : World) : Calls Tryz.prog 172 #[.int .i64 a, .int .i64 b] w fun e w' => e = .returned (.int .i64 (dl a b)) ∧ Kept (fun _ => False) w w' := by
 rw [oM]
 have toq := BO (show ∀ (x y : Int) (W : World), Calls Tryz.prog 54 #[.int .i64 x, .int .i64 y] W fun e w' => e = .returned (.bool (aN x y)) ∧ Kept (fun _ => False) W w' from km)
 obtain ⟨res, hres⟩ : ∃ r, (if dK a b 7 < 0 then (0 : Int) else dK a b 7) = r := ⟨_, rfl⟩
 have yx := BO hres
 rw [hres]
 clear hres
 go_enter Tryz.func172, Tryz.ntmps172
 go_wp2_with fail
 go_loopw [5, 6] (fun t i wr => ∃ k : Nat, k ≤ 7 ∧ i = .int .i64 k ∧ t = .int .i64 (dK a b k) ∧ Kept (fun _ => False) w wr) (fun _ i _ => 7 - (intOf i).toNat)
 case atStart => exact ⟨0, by omega, rfl, rfl, Kept.refl _ _⟩
 case round =>
  obtain ⟨k, hk, rfl, rfl, hb⟩ := hrel
  have HB := BO hb
  clear hb
  by_cases hlt : k < 7
  ·have hki : (k : Int) ≤ 6 := by omega
   have vI := BO (show dK a b (k + 1) = if aN k a && aN k b && (decide (dK a b k < 0) || aN (dK a b k) k) then (k : Int) else dK a b k from rfl)
   obtain ⟨t, ht⟩ : ∃ t, dK a b k = t := ⟨_, rfl⟩
   rw [ht] at vI ⊢
   clear ht
   cases c1 : aN k a
   ·have HN := BO (show dK a b (k + 1) = t by rw [vI.out, c1]; rfl)
    have tW := BO (toq.out k a wr)
    rw [c1] at tW
    clear c1 vI
    go_wp2_with (go_at_call 54; refine tW.out.mono ?_; rintro e1 w1 ⟨rfl, hk1⟩; have sW := BO (HB.out.trans hk1 (fun _ h => h.elim)); clear hk1 tW)
    go_roundw
    case rel => exact ⟨k + 1, by omega, by go_num, by rw [HN.out], sW.out⟩
    case measure => simp [intOf]; omega
   cases c2 : aN k b
   ·have HN := BO (show dK a b (k + 1) = t by rw [vI.out, c1, c2]; rfl)
    have tW := BO (toq.out k a wr)
    rw [c1] at tW
    have ug := BO (show ∀ W, _ from toq.out k b)
    rw [c2] at ug
    clear c1 c2 vI
    go_wp2_with (first | (go_at_call 54; refine tW.out.mono ?_; rintro e1 w1 ⟨rfl, hk1⟩; have sW := BO (HB.out.trans hk1 (fun _ h => h.elim)); clear hk1 tW) | (go_at_call 54; refine (ug.out _).mono ?_; rintro e2 w2 ⟨rfl, hk2⟩; have s8 := BO (sW.out.trans hk2 (fun _ h => h.elim)); clear hk2 ug))
    go_roundw
    case rel => exact ⟨k + 1, by omega, by go_num, by rw [HN.out], s8.out⟩
    case measure => simp [intOf]; omega
   by_cases c3 : t < 0
   ·have HN := BO (show dK a b (k + 1) = k by rw [vI.out, c1, c2, decide_eq_true c3]; rfl)
    have tW := BO (toq.out k a wr)
    rw [c1] at tW
    have ug := BO (show ∀ W, _ from toq.out k b)
    rw [c2] at ug
    clear c1 c2 vI
    go_wp2_with (first | (go_at_call 54; refine tW.out.mono ?_; rintro e1 w1 ⟨rfl, hk1⟩; have sW := BO (HB.out.trans hk1 (fun _ h => h.elim)); clear hk1 tW) | (go_at_call 54; refine (ug.out _).mono ?_; rintro e2 w2 ⟨rfl, hk2⟩; have s8 := BO (sW.out.trans hk2 (fun _ h => h.elim)); clear hk2 ug))
    go_roundw
    case rel => exact ⟨k + 1, by omega, by go_num, by rw [HN.out], s8.out⟩
    case measure => simp [intOf]; omega
   cases c4 : aN t k
   all_goals
    have HN := BO (show dK a b (k + 1) = if aN t k then (k : Int) else t by rw [vI.out, c1, c2, decide_eq_false c3]; rfl)
    rw [c4] at HN
    have tW := BO (toq.out k a wr)
    rw [c1] at tW
    have ug := BO (show ∀ W, _ from toq.out k b)
    rw [c2] at ug
    have yR := BO (show ∀ W, _ from toq.out t k)
    rw [c4] at yR
    clear c1 c2 c4 vI
    go_wp2_with (first | (go_at_call 54; refine tW.out.mono ?_; rintro e1 w1 ⟨rfl, hk1⟩; have sW := BO (HB.out.trans hk1 (fun _ h => h.elim)); clear hk1 tW) | (go_at_call 54; refine (ug.out _).mono ?_; rintro e2 w2 ⟨rfl, hk2⟩; have s8 := BO (sW.out.trans hk2 (fun _ h => h.elim)); clear hk2 ug) | (go_at_call 54; refine (yR.out _).mono ?_; rintro e3 w3 ⟨rfl, hk3⟩; have tn := BO (s8.out.trans hk3 (fun _ h => h.elim)); clear hk3 yR))
    go_roundw
    case rel => exact ⟨k + 1, by omega, by go_num, by rw [HN.out]; rfl, tn.out⟩
    case measure => simp [intOf]; omega
  ·have hki : ¬ (k : Int) ≤ 6 := by omega
   obtain rfl : k = 7 := by omega
   obtain ⟨t, ht⟩ : ∃ t, dK a b 7 = t := ⟨_, rfl⟩
   rw [ht] at yx ⊢
   clear ht
   by_cases c3 : t < 0
   ·have HR := BO (show (0 : Int) = res by rw [← yx.out, if_pos c3])
    go_wp2_with fail
    go_ret
    exact ⟨by rw [← HR.out]; rfl, HB.out⟩
   ·have HR := BO (show t = res by rw [← yx.out, if_neg c3])
    go_wp2_with fail
    go_ret
    exact ⟨by rw [← HR.out]; rfl, HB.out⟩
theorem rZ {w : World} {v u : Value} {xs : List (List Val)} {y : List Val} (h1 : RowsRd w v xs) (h2 : cO w u y) :
  Calls Tryz.prog 55 #[v, u] w fun e w' => e = .returned (.bool (cY xs y)) ∧ Kept (fun _ => False) w w' := by
 obtain ⟨a1, c1, rfl, n1, m1, _⟩ := h1.shape
 obtain ⟨ua, un, uc, rfl⟩ : ∃ a n c, u = .slice a n c := by obtain ⟨_, _, a, c, h, _⟩ := id h2; exact ⟨a, _, c, h⟩
 have H1 := BO h1
 have H2 := BO h2
 clear h1 h2
 obtain ⟨N, hN⟩ : ∃ N, xs.length = N := ⟨_, rfl⟩
 have HN := BO hN
 have HI := BO (show cY xs y = xs.any (fun x => decide (x = y)) from rfl)
 rw [hN] at H1 n1 m1 ⊢
 clear hN
 go_enter Tryz.func55, Tryz.ntmps55
 go_wp2_with fail
 go_loopw [5] (fun i wr => ∃ j : Nat, i = .int .i64 j ∧ j ≤ N ∧ (xs.take j).any (fun x => decide (x = y)) = false ∧ Kept (fun _ => False) w wr) (fun i _ => N - (intOf i).toNat)
 case atStart => exact ⟨0, rfl, by omega, rfl, Kept.refl _ _⟩
 case round =>
  obtain ⟨j, rfl, hj, hn, hk⟩ := hrel
  have tK := BO hn
  have HK := BO hk
  clear hn hk
  by_cases hlt : j < N
  ·have hji : (j : Int) < (N : Int) := by omega
   obtain ⟨r, hr⟩ : ∃ r, xs[j]? = some r := ⟨xs[j]'(by rw [HN.out]; exact hlt), List.getElem?_eq_getElem _⟩
   obtain ⟨g1, o1, ra1, rc1, hg1, y1, hrow1, hl1, hrc1⟩ := eB (H1.out.kept HK.out) hr
   have vY := BO hr
   subst hg1
   have HC := BO (nl hrow1 (H2.out.kept HK.out (fun _ _ h => h)))
   clear hr hrow1
   obtain ⟨b, hb⟩ : ∃ b, decide (r = y) = b := ⟨_, rfl⟩
   rw [hb] at HC
   have HB := BO hb
   clear hb
   generalize r.length = rl at *
   cases b
   ·go_wp2_with (go_at_call 96; refine HC.out.mono ?_; rintro e3 w3 ⟨rfl, n3, rfl⟩; have tn := BO (HK.out.drewN n3); clear HC y1)
    go_roundw
    case rel => exact ⟨j + 1, by go_num, by omega, by rw [dm _ vY.out, tK.out, HB.out]; rfl, tn.out⟩
    case measure => simp [intOf]; omega
   ·go_wp2_with (go_at_call 96; refine HC.out.mono ?_; rintro e3 w3 ⟨rfl, n3, rfl⟩; have tn := BO (HK.out.drewN n3); clear HC y1)
    go_ret
    exact ⟨by rw [HI.out, iN _ vY.out HB.out]; rfl, tn.out⟩
  ·have hji : ¬ ((j : Int) < (N : Int)) := by omega
   obtain rfl : j = N := by omega
   have HF := BO (show cY xs y = false by have := tK.out; rw [List.take_of_length_le (Nat.le_of_eq HN.out)] at this; rw [HI.out]; exact this)
   go_wp2_with fail
   go_ret
   exact ⟨by rw [HF.out]; rfl, HK.out⟩
theorem rz {α : Type} (q : α → Bool) {l : List α} {j : Nat} {x : α} (h : l[j]? = some x) : (l.take (j + 1)).all q = ((l.take j).all q && q x) := by
 rw [List.take_add_one, h]; simp
theorem nU {α : Type} (q : α → Bool) {l : List α} {j : Nat} {x : α} (h : l[j]? = some x) (hq : q x = false) : l.all q = false := by
 rw [Bool.eq_false_iff]; intro ha; rw [List.all_eq_true.1 ha x (List.mem_of_getElem? h)] at hq; cases hq
theorem pB {w : World} {x y : ClmE} (hx : RdCl w x) (hy : RdCl w y) : Calls Tryz.prog 20 #[.agg x.cells.toArray, .agg y.cells.toArray] w fun r w' => r = .returned (.bool (RC.cov x.c y.c)) ∧ Kept (fun _ => False) w w' := by
 obtain ⟨W1, hW1, hk1, hb1, hb2⟩ := dD w x.cells.toArray y.cells.toArray tCl tCl
 have HP := BO (show RC.cov x.c y.c = (RC.same x.c y.c && aN x.mode y.mode && y.imgs.all (fun r => cY x.imgs r)) from rfl)
 have sR := BO hW1
 have sW := BO hk1
 have sZ := BO hb1
 have s7 := BO hb2
 have th := BO (ay (ai hb1))
 have tC := BO (ay (ai hb2))
 have HS := BO (el (hx.kept hk1) (hy.kept hk1))
 have HX := BO (hx.1.kept hk1)
 have HY := BO (hy.1.kept hk1)
 obtain ⟨ya, yc, hsl, n1, m1, _⟩ := hy.1.shape
 have wm := BO hsl
 have toq := BO (show ∀ W, Calls Tryz.prog 54 #[.int .i64 x.mode, .int .i64 y.mode] W fun e w' => e = .returned (.bool (aN x.mode y.mode)) ∧ Kept (fun _ => False) W w' from km x.mode y.mode)
 obtain ⟨s, hs⟩ : ∃ s, RC.same x.c y.c = s := ⟨_, rfl⟩
 obtain ⟨m, hm⟩ : ∃ m, aN x.mode y.mode = m := ⟨_, rfl⟩
 rw [hs] at HS HP
 rw [hm] at toq HP
 obtain ⟨N, hN⟩ : ∃ N, y.imgs.length = N := ⟨_, rfl⟩
 have HN := BO hN
 rw [hsl] at HY
 rw [hN] at HY wm n1 m1
 clear hN hW1 hk1 hb1 hb2 hx hy hs hm hsl
 go_enter Tryz.func20, Tryz.ntmps20
 go_upto_region 1 with fail
 rw [← sR.out]
 clear sR
 generalize w.heap.size + 1 = b2 at *
 generalize w.heap.size = b1 at *
 go_upto_region 2 with (first | (refine ag rfl _ _ rfl _ _ rfl _ th.out ?_) | (refine ag rfl _ _ rfl _ _ rfl _ tC.out ?_) | (go_at_call 26; refine HS.out.mono ?_; rintro r2 w2 ⟨rfl, hk2⟩; have s8 := BO hk2; clear hk2 HS th tC))
 have tN := BO (sW.out.trans s8.out (fun _ h => h.elim))
 have x2 := (aW (aA s8.out sZ.out)).1
 have y2 := (aW (aA s8.out s7.out)).1
 cases s
 ·have HR := BO (show RC.cov x.c y.c = false by rw [HP.out]; rfl)
  clear HP
  go_wp2_with fail
  go_ret
  exact ⟨by rw [HR.out]; rfl, tN.out⟩
 cases m
 ·have HR := BO (show RC.cov x.c y.c = false by rw [HP.out]; rfl)
  have ug := BO (toq.out w2)
  clear HP toq
  go_wp2_with (go_at_call 54; refine ug.out.mono ?_; rintro r3 w3 ⟨rfl, hk3⟩; have tn := BO (tN.out.trans hk3 (fun _ h => h.elim)); clear hk3 ug x2 y2)
  go_ret
  exact ⟨by rw [HR.out]; rfl, tn.out⟩
 have HR := BO (show RC.cov x.c y.c = y.imgs.all (fun r => cY x.imgs r) by rw [HP.out]; rfl)
 have ug := BO (toq.out w2)
 clear HP toq
 go_upto_region 4 with (go_at_call 54; refine ug.out.mono ?_; rintro r3 w3 ⟨rfl, hk3⟩; have tn := BO (s8.out.trans hk3 (fun _ h => h.elim)); clear hk3 ug x2 y2)
 have HB1' := BO (aA tn.out sZ.out)
 have HB2' := BO (aA tn.out s7.out)
 have HX' := BO (HX.out.kept tn.out)
 have HY' := BO (HY.out.kept tn.out)
 have A0 := BO (sW.out.trans tn.out (fun _ h => h.elim))
 clear sW s8 tn tN sZ s7 HX HY
 obtain ⟨y2, y6⟩ := aW HB2'.out
 rw [wm.out] at y6
 go_wp2_with fail
 go_loopw [6] (fun i wr => ∃ j : Nat, i = .int .i64 j ∧ j ≤ N ∧ (y.imgs.take j).all (fun r => cY x.imgs r) = true ∧ Kept (fun _ => False) w3 wr) (fun i _ => N - (intOf i).toNat)
 case atStart => exact ⟨0, rfl, by omega, rfl, Kept.refl _ _⟩
 case round =>
  obtain ⟨j, rfl, hj, hn, hk⟩ := hrel
  have tK := BO hn
  have HK := BO hk
  clear hn hk y2 y6
  have y6 := (aW (aA HK.out HB2'.out)).2
  have x6 := (aW (aA HK.out HB1'.out)).2
  rw [wm.out] at y6
  by_cases hlt : j < N
  ·have hji : (j : Int) < (N : Int) := by omega
   obtain ⟨r, hr⟩ : ∃ r, y.imgs[j]? = some r := ⟨y.imgs[j]'(by rw [HN.out]; exact hlt), List.getElem?_eq_getElem _⟩
   obtain ⟨g2, o2, ra2, rc2, hg2, z2, hrow2, hl2, hrc2⟩ := eB (HY'.out.kept HK.out) hr
   have vY := BO hr
   rw [hg2] at y6
   have HC := BO (rZ (w := wr.drew) (HX'.out.kept HK.out.drew) (show cO wr.drew _ r from hrow2))
   obtain ⟨h, hh⟩ : ∃ h, cY x.imgs r = h := ⟨_, rfl⟩
   rw [hh] at HC
   have HH := BO hh
   clear hr hrow2 hh hg2
   generalize r.length = rl at *
   go_upto_region 7 with fail
   refine af [(0, false, 7), (1, false, 7), (2, false, 7), (3, false, 7), (4, false, 7), (5, false, 7), (6, false, 7), (7, true, 0), (8, false, 999)] (by kernel_rfl) (by kernel_rfl) ?_
   iterate 7 (refine ae rfl rfl (fun K hK => ?_); go_simp; refine hK _ ?_; clear hK K)
   refine al rfl ?_
   refine aw rfl (fun K hK => ?_)
   go_simp
   refine HC.out.mono ?_
   rintro e4 w4 ⟨rfl, hk4⟩
   have ud := BO (HK.out.drew.trans hk4 (fun _ h => h.elim))
   clear hk4 HC y6 x6 z2
   refine hK _ _ ?_
   clear hK K
   refine wpList_nil ?_
   refine And.intro ?_ ?_
   ·go_simp
   refine ae rfl rfl (fun K hK => ?_); go_simp; refine hK _ ?_; clear hK K
   refine ap ?_
   cases h
   ·go_wp2_with fail
    go_ret
    exact ⟨by rw [HR.out, nU _ vY.out HH.out]; rfl, A0.out.trans ud.out (fun _ h => h.elim)⟩
   ·go_wp2_with fail
    go_roundw
    case rel => exact ⟨j + 1, by go_num, by omega, by rw [rz _ vY.out, tK.out, HH.out]; rfl, ud.out⟩
    case measure => simp [intOf]; omega
  ·have hji : ¬ ((j : Int) < (N : Int)) := by omega
   obtain rfl : j = N := by omega
   have HF := BO (show y.imgs.all (fun r => cY x.imgs r) = true by have := tK.out; rw [List.take_of_length_le (Nat.le_of_eq HN.out)] at this; exact this)
   go_wp2_with fail
   go_ret
   exact ⟨by rw [HR.out, HF.out]; rfl, A0.out.trans HK.out (fun _ h => h.elim)⟩
theorem rS {B w : World} {D : PH} {l : List HP} {ao : Option Addr} {N cap j : Nat} {rs : List (List Val)} {r : List Val} (h : RowsAt D (.slice ao N cap) rs) (hs : Sat B D w l) (hr : rs[j]? = some r) :
  ∃ g o ra rc, ao = some ⟨g, o, none⟩ ∧ w.cell? ⟨g, o + j, none⟩ = some (.slice ra r.length rc) ∧ cO w (.slice ra r.length rc) r ∧ RowD D (.slice ra r.length rc) r ∧ r.length ≤ 9223372036854775807 ∧ r.length ≤ rc := by
 obtain ⟨hh, h1, hone, h2, h3⟩ := h
 have hlt : j < rs.length := (List.getElem?_eq_some_iff.1 hr).1
 obtain ⟨hv, hhv⟩ : ∃ hv, hh[j]? = some hv := ⟨hh[j]'(by omega), List.getElem?_eq_getElem (by omega)⟩
 obtain ⟨g, o, ra, rc, ha, hc, hrow, hl, hrc⟩ := eB (RowsAt.rd hs ⟨hh, h1, hone, h2, h3⟩) hr
 have hrd := h2.rd hs
 obtain ⟨_, _, ao', cap', hvv, _, _, _, hcc⟩ := hrd
 have e : w.cell? ⟨g, o + j, none⟩ = some hv := by
  rcases hcc with h0 | ⟨g', o', hg, hcell⟩
  ·omega
  ·cases hvv
   rw [ha] at hg
   cases hg
   exact hcell j hv hhv
 rw [hc] at e
 obtain rfl := Option.some.inj e
 exact ⟨g, o, ra, rc, ha, hc, hrow, h3 j _ r hhv hr, hl, hrc⟩
theorem qz {B w : World} {D : PH} {l : List HP} {x y : ClmE} (hx : ClOk D x) (hy : ClOk D y) (hsx : ClmSm 1000000 x.c) (hsy : ClmSm 1000000 y.c) (hs : Sat B D w l) :
  Calls Tryz.prog 146 #[.agg x.cells.toArray, .agg y.cells.toArray] w (pt B D l (RC.join x.c y.c)) := by
 obtain ⟨i0, hi, hz0, hz1, hz2⟩ := info_parts mr
 have HI := BO (And.intro hi (And.intro hz0 (And.intro hz1 hz2)))
 obtain ⟨W1, hW1, hs1⟩ := dJ hs x.cells.toArray y.cells.toArray cZ tCl tCl tCl
 have sS := BO hs1
 have sR := BO hW1
 have HX := BO hx
 have HY := BO hy
 have AU := BO hsy
 have hN1 : x.imgs.length ≤ 1000000 := hsx.1
 have hM1 : y.imgs.length ≤ 1000000 := hsy.1
 have th := BO (ay (ai (hs1.blk 0 rfl)))
 have tC := BO (ay (ai (hs1.blk 1 rfl)))
 have tD := BO (el (hx.rd hs1) (hy.rd hs1))
 clear hi hz0 hz1 hz2 hx hy hs hs1 hW1 hsx hsy
 cases hsame : RC.same x.c y.c
 ·have HJ := BO (show RC.join x.c y.c = x.c from if_neg (by rw [show cz x.c y.c = false from hsame]; simp))
  rw [HJ.out]
  rw [hsame] at tD
  clear hsame
  go_enter Tryz.func146, Tryz.ntmps146
  go_upto_region 1 with fail
  rw [← sR.out]
  clear sR
  generalize w.heap.size + 1 + 1 = b3 at *
  generalize w.heap.size + 1 = b2 at *
  generalize w.heap.size = b1 at *
  go_wp2_with (first | (refine ag rfl _ _ rfl _ _ rfl _ th.out ?_) | (refine ag rfl _ _ rfl _ _ rfl _ tC.out ?_) | (go_at_call 26; refine tD.out.mono ?_; rintro e5 w5 ⟨rfl, hk5⟩; have hs5 := sS.out.kept hk5; have wl := BO (ay (ai (hs5.blk 0 rfl))); have sV := BO (hs5.front 2 rfl); clear hs5 hk5 tD th tC sS) | (refine ag rfl _ _ rfl _ _ rfl _ wl.out ?_) | (refine aq rfl _ _ _ rfl tCl b3 rfl x.cells rfl cZ sV.out (by kernel_rfl) rfl (ClmE.one _) ?_; intro w6 hs6; have s0 := BO hs6; clear hs6 sV wl))
  refine bodyPost_ret (cC rfl _ _ rfl (ay (ai (s0.out.blk 0 rfl)))) rfl ?_
  exact ⟨x, D, rfl, rfl, PH.le.refl _, HX.out, s0.out.drop.drop.drop⟩
 ·have HJ := BO (show RC.join x.c y.c = { x.c with mode := dl x.mode y.mode, imgs := bL x.imgs y.imgs } from if_pos hsame)
  rw [HJ.out]
  rw [hsame] at tD
  clear hsame
  obtain ⟨hx0, hxl, hx1, hxp, hxr⟩ := HX.out.1
  have xE := BO (show RowsH D hx0 x.imgs from ⟨hxl, hxr⟩)
  have Bt := BO hx1
  have Aa := BO hxp
  obtain ⟨ia, il, hil, _⟩ : ∃ a c, Value.slice y.ia y.il y.ic = .slice a y.imgs.length c ∧ y.imgs.length ≤ c ∧ y.imgs.length ≤ 9223372036854775807 ∧ c ≤ 9223372036854775807 := (HY.out.1.rd sS.out).shape
  have vt := BO (Value.slice.inj hil).2.1
  clear hxl hx1 hxp hxr hil
  go_enter Tryz.func146, Tryz.ntmps146
  go_upto_region 1 with fail
  rw [← sR.out]
  clear sR
  generalize w.heap.size + 1 + 1 = b3 at *
  generalize w.heap.size + 1 = b2 at *
  generalize w.heap.size = b1 at *
  go_upto_region 4 with (first | (refine ag rfl _ _ rfl _ _ rfl _ th.out ?_) | (refine ag rfl _ _ rfl _ _ rfl _ tC.out ?_) | (go_at_call 26; refine tD.out.mono ?_; rintro e5 w5 ⟨rfl, hk5⟩; have sV := BO (sS.out.kept hk5); clear hk5 tD th tC sS))
  have x2 := (aW (sV.out.blk 0 rfl)).1
  have y2 := (aW (sV.out.blk 1 rfl)).1
  have yu := BO (rJ x.mode y.mode w5)
  have zg := BO (show ∃ m, m = dl x.mode y.mode from ⟨_, rfl⟩)
  obtain ⟨jm, hjm⟩ := zg.out
  have vu := BO hjm
  rw [← hjm] at yu
  clear hjm zg
  go_upto_region 5 with (go_at_call 172; refine yu.out.mono ?_; rintro e6 w6 ⟨rfl, hk6⟩; have hs6 := sV.out.kept hk6; have z2 := (aW (hs6.blk 0 rfl)).1; have zf := frz (hs6.blk 0 rfl); have s0 := BO (Sat.setM hs6 jm); clear hs6 hk6 yu sV x2 y2)
  obtain ⟨W6, hW6, hs6⟩ := Sat.hide s0.out
  rw [← hW6]
  clear hW6 s0 z2 zf
  have zR := BO (show Rd W6 1 (.slice x.ia x.il x.ic) x.imgs.length hx0 by have := Aa.out.rd hs6; exact this)
  have uE := BO (hs6.own_nil tRw 1)
  have x6 := fW (hs6.blk 0 rfl)
  have y6 := fW (hs6.blk 1 rfl)
  rw [vt.out] at y6
  clear hs6
  generalize hM : y.imgs.length = M at *
  have HM := BO hM
  clear hM
  go_upto_region 7 with (refine ar _ rfl _ _ 32 rfl tRw i0 _ 1 24 Tryz.underlying32 HI.out.1 HI.out.2.1 HI.out.2.2.1 HI.out.2.2.2 rfl _ 0 _ rfl uE.out _ x.imgs.length _ rfl zR.out Bt.out (by unfold maxLen; omega) (by omega) ?_; intro v7 w7 hs7 h17; obtain ⟨va7, vc7, rfl⟩ := hs7.own_shape; have td := BO hs7; clear hs7 h17 uE zR x6 y6)
  have tj := BO (show Sat B D w7 (aJ tRw 1 (.slice va7 x.imgs.length vc7) x.imgs.length hx0 :: blk b1 (x.layM jm).cells.toArray tCl :: blk b2 y.cells.toArray tCl :: blk b3 cZ tCl :: l) from by have := td.out; rw [Nat.zero_add, List.nil_append] at this; exact this)
  clear td
  have y6 := fW (tj.out.blk 2 rfl)
  rw [vt.out] at y6
  go_wp2_with fail
  go_loopw [6, 7] (fun sv i wr => ∃ (j n : Nat) (va : Option Addr) (vc : Nat) (hs : List Value) (rs : List (List Val)), i = .int .i64 j ∧ sv = .slice va n vc ∧ j ≤ M ∧ rs = bL x.imgs (y.imgs.take j) ∧ n = rs.length ∧ RowsH D hs rs ∧ Sat B D wr (aJ tRw 1 (.slice va n vc) n hs :: blk b1 (x.layM jm).cells.toArray tCl :: blk b2 y.cells.toArray tCl :: blk b3 cZ tCl :: l)) (fun _ i _ => M - (intOf i).toNat)
  case atStart => exact ⟨0, x.imgs.length, va7, vc7, hx0, x.imgs, rfl, rfl, by omega, rfl, rfl, xE.out, tj.out⟩
  case round =>
   obtain ⟨j, n, va, vc, hs, rs, rfl, rfl, hj, hrs, hn, hrh, hs3⟩ := hrel
   have wT := BO hrs
   have hn2 : n ≤ 2000000 := by have := (gj x.imgs (y.imgs.take j)).2; rw [← hrs, List.length_take] at this; omega
   have wV := BO hn
   have uF := BO hrh
   have sU := BO hs3
   clear y6
   have y6 := fW (hs3.blk 2 rfl)
   rw [vt.out] at y6
   clear hrs hn hrh hs3
   by_cases hlt : j < M
   ·have hji : (j : Int) < (M : Int) := by omega
    obtain ⟨r, hr⟩ : ∃ r, y.imgs[j]? = some r := ⟨y.imgs[j]'(by rw [HM.out]; exact hlt), List.getElem?_eq_getElem _⟩
    obtain ⟨g, og, ra, rc, hga, y0, hrow, hrd, hrl, hrc⟩ := rS (by have := HY.out.1; rw [vt.out] at this; exact this) sU.out hr
    have xD := BO hga
    have HR := BO hr
    have uP := BO (rZ (uF.out.rd sU.out (by rw [uF.out.1, ← wV.out]; exact (sU.out.own 0 rfl).rd)) hrow)
    have uk := BO (show bL x.imgs (y.imgs.take (j + 1)) = if cY rs r then rs else rs ++ [r] by rw [iE hr, ← wT.out])
    rw [xD.out] at y6
    clear hr hrow hga hrd
    cases hin : cY rs r
    ·rw [hin] at uP uk
     clear hin
     go_upto_region 12 with (go_at_call 55; refine uP.out.mono ?_; rintro e8 w8 ⟨rfl, hk8⟩; have sY := BO (sU.out.kept hk8); clear hk8 uP sU y6 y0)
     obtain ⟨g, og, ra, rc, hga, y0, hrow, hrd, hrl, hrc⟩ := rS (by have := HY.out.1; rw [vt.out] at this; exact this) sY.out HR.out
     have s5 := BO hrd
     have xD := BO hga
     clear hrow hrd hga
     have y6 := fW (sY.out.blk 2 rfl)
     rw [vt.out, xD.out] at y6
     have uv := BO ((sY.out.alloc #[.slice ra r.length rc] tRw).front 1 rfl)
     have vR := BO (aT (size := 1) (n := 1) ((sY.out.alloc #[.slice ra r.length rc] tRw).blk 0 rfl) rfl (by unfold maxLen; omega))
     go_wp2_with (refine ar _ rfl _ _ 32 rfl tRw i0 _ 1 24 Tryz.underlying32 HI.out.1 HI.out.2.1 HI.out.2.2.1 HI.out.2.2.2 rfl _ n _ rfl uv.out _ 1 _ rfl vR.out (by intro u hu; simp at hu; subst hu; rfl) (by unfold maxLen; omega) (by omega) ?_; intro v7 w7 hs7 h17; obtain ⟨va7, vc7, rfl⟩ := hs7.own_shape; have td := BO hs7; clear hs7 h17 uv vR sY y6 y0)
     have Bu := BO (show Sat B D w7 (aJ tRw 1 (.slice va7 (n + 1) vc7) (n + 1) (hs ++ [Value.slice ra r.length rc]) :: blk b1 (x.layM jm).cells.toArray tCl :: blk b2 y.cells.toArray tCl :: blk b3 cZ tCl :: l) from (Sat.front (show Sat B D w7 (aJ tRw 1 (.slice va7 (n + 1) vc7) (n + 1) (hs ++ [Value.slice ra r.length rc]) :: blk w8.heap.size #[Value.slice ra r.length rc] tRw :: blk b1 (x.layM jm).cells.toArray tCl :: blk b2 y.cells.toArray tCl :: blk b3 cZ tCl :: l) from td.out) 1 rfl).drop)
     have Bv := BO (uF.out.snoc s5.out)
     clear td
     go_roundw
     case rel => exact ⟨j + 1, n + 1, va7, vc7, hs ++ [Value.slice ra r.length rc], rs ++ [r], by go_num, rfl, by omega, by rw [uk.out]; rfl, by rw [List.length_append, wV.out]; rfl, Bv.out, Bu.out⟩
     case measure => simp [intOf]; omega
    ·rw [hin] at uP uk
     clear hin
     go_wp2_with (go_at_call 55; refine uP.out.mono ?_; rintro e8 w8 ⟨rfl, hk8⟩; have sY := BO (sU.out.kept hk8); clear hk8 uP sU y6 y0)
     go_roundw
     case rel => exact ⟨j + 1, n, va, vc, hs, rs, by go_num, rfl, by omega, by rw [uk.out]; rfl, wV.out, uF.out, sY.out⟩
     case measure => simp [intOf]; omega
   ·have hji : ¬ ((j : Int) < (M : Int)) := by omega
    have hjM : j = M := by omega
    subst hjM
    have x6 := fW (sU.out.blk 1 rfl)
    have xf := frz (sU.out.blk 1 rfl)
    have sV := BO (Sat.setI (sU.out.front 1 rfl) va n vc rs)
    go_upto_region 14 with fail
    obtain ⟨W9, hW9, hs9⟩ := Sat.hide sV.out
    rw [← hW9]
    clear hW9 sV sU x6 xf y6
    have A1 := BO (ay (ai (hs9.blk 0 rfl)))
    have ti := BO (show Sat B D W9 (blk b3 cZ tCl :: blk b1 ((x.layM jm).layI va n vc rs).cells.toArray tCl :: aJ tRw 1 (.slice va n vc) n hs :: blk b2 y.cells.toArray tCl :: l) from hs9.front 3 rfl)
    clear hs9
    go_wp2_with (first | (refine ag rfl _ _ rfl _ _ rfl _ A1.out ?_) | (refine aq rfl _ _ _ rfl tCl b3 rfl ((x.layM jm).layI va n vc rs).cells rfl cZ ti.out (by kernel_rfl) rfl (ClmE.one _) ?_; intro w6 hs6; have s0 := BO hs6; clear hs6 ti A1))
    refine bodyPost_ret (cC rfl _ _ rfl (ay (ai (s0.out.blk 0 rfl)))) rfl ?_
    have h8 := s0.out.rot.rot
    obtain ⟨D5, hle5, hrd5, hs5⟩ := h8.own_give
    have hrs : rs = bL x.imgs y.imgs := by rw [wT.out, ← HM.out, List.take_length]
    refine ⟨(x.layM jm).layI va n vc rs, D5, rfl, ?_, hle5, ⟨?_, HX.out.2.mono hle5⟩, hs5.drop.drop.drop⟩
    ·show Clm.mk x.kind x.table jm x.key rs x.pr.p = Clm.mk x.kind x.table (dl x.mode y.mode) x.key (bL x.imgs y.imgs) x.pr.p
     rw [vu.out, hrs]
    ·refine (uF.out.mono hle5).at ?_ (h8.own 0 rfl).2.1
     rw [uF.out.1, ← wV.out]; exact hrd5
end Go.Proofs.YtgljdkjepdknnaaGreatDoor
