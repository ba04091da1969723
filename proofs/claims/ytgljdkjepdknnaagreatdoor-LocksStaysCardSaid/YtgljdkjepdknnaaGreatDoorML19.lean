/- Joined texts: Openings of a claim, with the bounds of its strings. (printed by genfopenf.py) The document's answer: Covers of any two numbers, and Join (ratlineref08). The document's answer: whether a row is one of some, whether a claim covers another (ratlineref09.In, Covers). The document's answer: one claim in the place of two (ratlineref09.Join). -/
import Derived.Test.YtgljdkjepdknnaaGreatDoorML17
import Derived.Test.YtgljdkjepdknnaaGreatDoorML18
import Derived.Test.YtgljdkjepdknnaaGreatDoorML16
import Derived.Test.YtgljdkjepdknnaaGreatDoorML12
set_option maxHeartbeats 64000000
namespace Go.Proofs.YtgljdkjepdknnaaGreatDoor
open Go.ChangeShapes Go.WideShapes Go.ChangeAt Go.RowKit Go.Deep
set_option maxRecDepth 100000
set_option linter.unusedSimpArgs false
section
variable {H : Type} {enc : TypeId × Value → H} {w : World} {base : Nat} {spare : Nat → Bool} {held : Bool}
theorem ix {fuel : Nat} {cs : List Value} {x : DataW H × List MemPlace} (h : DataW.trod enc Tryz.prog w base spare held fuel 31 cs = some x) : ∃ v : Val, cs = v.cells ∧ v.fits := by
 obtain ⟨y0, y1, y2, n, _, hl, t0, t1, t2⟩ := ur Tryz.underlying31 h
 rw [io] at hl
 simp only [lx, rX, sy] at t0 t1 t2
 match cs, hl with
 | [c0, c1, c2], _ =>
  simp only [List.drop, List.take] at t0 t1 t2
  obtain ⟨b, hb, _⟩ := DataW.trod_bool Tryz.underlying4 t0
  obtain ⟨z, hz, _, wz⟩ := DataW.trod_int Tryz.underlying2 t1
  obtain ⟨s, hs, _, ws⟩ := DataW.trod_string Tryz.underlying9 t2
  simp only [List.cons.injEq, and_true] at hb hz hs
  subst hb hz hs
  exact ⟨⟨b, z, s⟩, rfl, ws⟩
theorem qM : ∀ (fuel : Nat) {cs : List Value} {x : DataW H × List MemPlace}, DataW.trod enc Tryz.prog w base spare held fuel 35 cs = some x → ∃ e : PredE, cs = e.cells ∧ PredsRd w (.slice e.la e.ln e.lc) e.subs ∧ PredFit e.p := by
 intro fuel
 induction fuel using Nat.strongRecOn with
 | _ fuel ih =>
  intro cs x h
  obtain ⟨y0, y1, y2, y3, y4, n, hn, hl, t0, t1, t2, t3, t4⟩ := tp Tryz.underlying35 h
  rw [lJ] at hl
  simp only [jz, io, sW] at t0 t1 t2 t3 t4
  match cs, hl with
  | [c0, c1, c2, c3, c4, c5, c6, c7, c8], _ =>
   simp only [List.drop, List.take] at t0 t1 t2 t3 t4
   obtain ⟨z0, hz0, _, _⟩ := DataW.trod_int Tryz.underlying3 t0
   obtain ⟨z1, hz1, _, _⟩ := DataW.trod_int Tryz.underlying3 t1
   obtain ⟨v, hv, fv⟩ := ix t2
   obtain ⟨u, hu, fu⟩ := ix t3
   obtain ⟨s, es, hs, hrd, hes⟩ := jd (f := PredE.cells) (G := fun e : PredE => PredsRd w (.slice e.la e.ln e.lc) e.subs ∧ PredFit e.p) Tryz.underlying33 lJ (by omega) PredE.len (fun m hm cs d hd => ih m (by omega) hd) t4
   simp only [List.cons.injEq, and_true] at hz0 hz1 hs
   simp only [Val.cells, List.cons.injEq, and_true] at hv hu
   obtain ⟨rfl, rfl, rfl⟩ := hv
   obtain ⟨rfl, rfl, rfl⟩ := hu
   subst hz0 hz1 hs
   obtain ⟨_, _, la, lc, rfl, _⟩ := id hrd
   exact ⟨⟨z0, z1, v, u, la, es.length, lc, es.map PredE.p⟩, rfl, .mk _ es hrd (fun e he => (hes e he).1), .mk z0 z1 v u _ fv fu (fun q hq => by obtain ⟨e, he, rfl⟩ := List.mem_map.1 hq; exact (hes e he).2)⟩
theorem sH {fuel : Nat} {cs : List Value} {x : DataW H × List MemPlace} (h : DataW.trod enc Tryz.prog w base spare held fuel 91 cs = some x) : ∃ (v : Value) (r : List Val), cs = [v] ∧ da w v r ∧ ∀ a ∈ r, a.fits := by
 obtain ⟨v, r, hc, hrd, hf⟩ := jd (f := Val.cells) (G := fun a : Val => a.fits) Tryz.underlying91 io (by omega) Val.len (fun m hm cs d hd => by exact ix hd) h
 exact ⟨v, r, hc, hrd, hf⟩
theorem qy {fuel : Nat} {cs : List Value} {x : DataW H × List MemPlace} (h : DataW.trod enc Tryz.prog w base spare held fuel 32 cs = some x) : ∃ (v : Value) (rs : List (List Val)), cs = [v] ∧ RowsRd w v rs ∧ ∀ r ∈ rs, ∀ a ∈ r, a.fits := by
 obtain ⟨v, l, hc, hrd, hl⟩ := jd (f := fun a : Value × List Val => [a.1]) (G := fun a : Value × List Val => da w a.1 a.2 ∧ ∀ z ∈ a.2, z.fits) Tryz.underlying32 rU (by omega) (fun _ => rfl) (fun m hm cs d hd => by obtain ⟨v, r, he, hr⟩ := sH hd; exact ⟨(v, r), he, hr⟩) h
 rw [uA] at hrd
 refine ⟨v, l.map Prod.snd, hc, ⟨l.map Prod.fst, by simp, by simpa using hrd, fun i u r hu hr => ?_⟩, fun r hr => by obtain ⟨a, ha, rfl⟩ := List.mem_map.1 hr; exact (hl a ha).2⟩
 rw [List.getElem?_map] at hu hr
 cases hx : l[i]? with
 | none => rw [hx] at hu; cases hu
 | some a =>
  rw [hx] at hu hr
  obtain rfl := Option.some.inj hu
  obtain rfl := Option.some.inj hr
  exact (hl a (List.mem_of_getElem? hx)).1
theorem oS {fuel : Nat} {cs : List Value} {x : DataW H × List MemPlace} (h : DataW.trod enc Tryz.prog w base spare held fuel 37 cs = some x) : ∃ c : ClmE, cs = c.cells ∧ RdCl w c ∧ bV c.c := by
 obtain ⟨y0, y1, y2, y3, y4, y5, n, hn, hl, t0, t1, t2, t3, t4, t5⟩ := uS Tryz.underlying37 h
 rw [pw] at hl
 simp only [jz, io, pB, qx, lJ] at t0 t1 t2 t3 t4 t5
 match cs, hl with
 | [c0, c1, c2, c3, c4, c5, c6, c7, c8, c9, c10, c11, c12, c13, c14, c15], _ =>
  simp only [List.drop, List.take] at t0 t1 t2 t3 t4 t5
  obtain ⟨z0, hz0, _, _⟩ := DataW.trod_int Tryz.underlying3 t0
  obtain ⟨z1, hz1, _, _⟩ := DataW.trod_int Tryz.underlying3 t1
  obtain ⟨z2, hz2, _, _⟩ := DataW.trod_int Tryz.underlying29 t2
  obtain ⟨v, hv, _⟩ := ix t3
  obtain ⟨s, rs, hs, hrd, hrf⟩ := qy t4
  obtain ⟨p, hp, hpr, hpf⟩ := qM _ t5
  simp only [List.cons.injEq, and_true] at hz0 hz1 hz2 hs
  simp only [Val.cells, List.cons.injEq, and_true] at hv
  simp only [PredE.cells, List.cons.injEq, and_true] at hp
  obtain ⟨rfl, rfl, rfl⟩ := hv
  obtain ⟨rfl, rfl, rfl, rfl, rfl, rfl, rfl, rfl, rfl⟩ := hp
  subst hz0 hz1 hz2 hs
  obtain ⟨hs, h1, ⟨_, _, ia, ic, rfl, _⟩, _⟩ := id hrd
  exact ⟨⟨z0, z1, z2, v, ia, rs.length, ic, rs, p⟩, rfl, ⟨hrd, hpr⟩, hpf, hrf⟩
end
end Go.Proofs.YtgljdkjepdknnaaGreatDoor
namespace Go.Proofs.YtgljdkjepdknnaaGreatDoor
open Go.ChangeShapes Go.WideShapes Go.ChangeAt Go.RowKit
set_option maxRecDepth 100000
set_option linter.unusedSimpArgs false
theorem qG (a b : Int) (h : a < 0 ∨ 6 < a ∨ b < 0 ∨ 6 < b) (w : World) :
  Calls Tryz.prog 54 #[.int .i64 a, .int .i64 b] w fun e w' => e = .returned (.bool false) ∧ w = w' := by
 by_cases h0 : a < 0
 ·go_enter Tryz.func54, Tryz.ntmps54
  go_wp2_with fail
  go_ret
  exact ⟨rfl, rfl⟩
 by_cases h1 : 6 < a
 ·have g1 : a > 6 := h1
  go_enter Tryz.func54, Tryz.ntmps54
  go_wp2_with fail
  go_ret
  exact ⟨rfl, rfl⟩
 have g1 : ¬ a > 6 := h1
 by_cases h2 : b < 0
 ·go_enter Tryz.func54, Tryz.ntmps54
  go_wp2_with fail
  go_ret
  exact ⟨rfl, rfl⟩
 have h3 : b > 6 := by omega
 go_enter Tryz.func54, Tryz.ntmps54
 go_wp2_with fail
 go_ret
 exact ⟨rfl, rfl⟩
theorem k7 (a b : Int) (w : World) : Calls Tryz.prog 54 #[.int .i64 a, .int .i64 b] w fun e w' => e = .returned (.bool (aO a b)) ∧ Kept (fun _ => False) w w' := by
 by_cases h : a < 0 ∨ 6 < a ∨ b < 0 ∨ 6 < b
 ·rw [← mD, show gB a b = false by unfold gB; rw [if_pos h]]
  exact (qG a b h w).mono (fun e w' ⟨h1, h2⟩ => ⟨h1, h2 ▸ Kept.refl _ _⟩)
 ·exact qz a b ⟨by omega, by omega⟩ ⟨by omega, by omega⟩ w
def d8 (a b : Int) : Nat → Int
 | 0 => -1
 | k + 1 => if aO k a && aO k b && (decide (d8 a b k < 0) || aO (d8 a b k) k) then k else d8 a b k
theorem mp {a b : Int} (h : (bG a && bG b) = false) : ∀ k, d8 a b k = -1
 | 0 => rfl
 | k + 1 => by
  unfold d8
  rw [mp h k]
  have : (aO k a && aO k b) = false := by
   unfold aO
   cases ha : bG a
   ·simp
   ·rw [ha] at h
    simp at h
    simp [h]
  rw [this]
  simp
theorem pP (a b : Int) : dC a b = if d8 a b 7 < 0 then 0 else d8 a b 7 := by
 cases h : (bG a && bG b)
 ·rw [mp h 7]
  unfold dC
  rw [h]
  rfl
 ·rw [Bool.and_eq_true] at h
  rcases bU h.1 with rfl | rfl | rfl | rfl | rfl | rfl | rfl <;> rcases bU h.2 with rfl | rfl | rfl | rfl | rfl | rfl | rfl <;> decide
theorem tC (a b : Int) (w : World) : Calls Tryz.prog 172 #[.int .i64 a, .int .i64 b] w fun e w' => e = .returned (.int .i64 (dC a b)) ∧ Kept (fun _ => False) w w' := by
 rw [pP]
 have vE := Eh (show ∀ (x y : Int) (W : World), Calls Tryz.prog 54 #[.int .i64 x, .int .i64 y] W fun e w' => e = .returned (.bool (aO x y)) ∧ Kept (fun _ => False) W w' from k7)
 obtain ⟨res, hres⟩ : ∃ r, (if d8 a b 7 < 0 then (0 : Int) else d8 a b 7) = r := ⟨_, rfl⟩
 have AS := Eh hres
 rw [hres]
 clear hres
 go_enter Tryz.func172, Tryz.ntmps172
 go_wp2_with fail
 go_loopw [5, 6] (fun t i wr => ∃ k : Nat, k ≤ 7 ∧ i = .int .i64 k ∧ t = .int .i64 (d8 a b k) ∧ Kept (fun _ => False) w wr) (fun _ i _ => 7 - (intOf i).toNat)
 case atStart => exact ⟨0, by omega, rfl, rfl, Kept.refl _ _⟩
 case round =>
  obtain ⟨k, hk, rfl, rfl, hb⟩ := hrel
  have HB := Eh hb
  clear hb
  by_cases hlt : k < 7
  ·have hki : (k : Int) ≤ 6 := by omega
   have xZ := Eh (show d8 a b (k + 1) = if aO k a && aO k b && (decide (d8 a b k < 0) || aO (d8 a b k) k) then (k : Int) else d8 a b k from rfl)
   obtain ⟨t, ht⟩ : ∃ t, d8 a b k = t := ⟨_, rfl⟩
   rw [ht] at xZ ⊢
   clear ht
   cases c1 : aO k a
   ·have HN := Eh (show d8 a b (k + 1) = t by rw [xZ.out, c1]; rfl)
    have wm := Eh (vE.out k a wr)
    rw [c1] at wm
    clear c1 xZ
    go_wp2_with (go_at_call 54; refine wm.out.mono ?_; rintro e1 w1 ⟨rfl, hk1⟩; have vd := Eh (HB.out.trans hk1 (fun _ h => h.elim)); clear hk1 wm)
    go_roundw
    case rel => exact ⟨k + 1, by omega, by go_num, by rw [HN.out], vd.out⟩
    case measure => simp [intOf]; omega
   cases c2 : aO k b
   ·have HN := Eh (show d8 a b (k + 1) = t by rw [xZ.out, c1, c2]; rfl)
    have wm := Eh (vE.out k a wr)
    rw [c1] at wm
    have wC := Eh (show ∀ W, _ from vE.out k b)
    rw [c2] at wC
    clear c1 c2 xZ
    go_wp2_with (first | (go_at_call 54; refine wm.out.mono ?_; rintro e1 w1 ⟨rfl, hk1⟩; have vd := Eh (HB.out.trans hk1 (fun _ h => h.elim)); clear hk1 wm) | (go_at_call 54; refine (wC.out _).mono ?_; rintro e2 w2 ⟨rfl, hk2⟩; have vp := Eh (vd.out.trans hk2 (fun _ h => h.elim)); clear hk2 wC))
    go_roundw
    case rel => exact ⟨k + 1, by omega, by go_num, by rw [HN.out], vp.out⟩
    case measure => simp [intOf]; omega
   by_cases c3 : t < 0
   ·have HN := Eh (show d8 a b (k + 1) = k by rw [xZ.out, c1, c2, decide_eq_true c3]; rfl)
    have wm := Eh (vE.out k a wr)
    rw [c1] at wm
    have wC := Eh (show ∀ W, _ from vE.out k b)
    rw [c2] at wC
    clear c1 c2 xZ
    go_wp2_with (first | (go_at_call 54; refine wm.out.mono ?_; rintro e1 w1 ⟨rfl, hk1⟩; have vd := Eh (HB.out.trans hk1 (fun _ h => h.elim)); clear hk1 wm) | (go_at_call 54; refine (wC.out _).mono ?_; rintro e2 w2 ⟨rfl, hk2⟩; have vp := Eh (vd.out.trans hk2 (fun _ h => h.elim)); clear hk2 wC))
    go_roundw
    case rel => exact ⟨k + 1, by omega, by go_num, by rw [HN.out], vp.out⟩
    case measure => simp [intOf]; omega
   cases c4 : aO t k
   all_goals
    have HN := Eh (show d8 a b (k + 1) = if aO t k then (k : Int) else t by rw [xZ.out, c1, c2, decide_eq_false c3]; rfl)
    rw [c4] at HN
    have wm := Eh (vE.out k a wr)
    rw [c1] at wm
    have wC := Eh (show ∀ W, _ from vE.out k b)
    rw [c2] at wC
    have Bg := Eh (show ∀ W, _ from vE.out t k)
    rw [c4] at Bg
    clear c1 c2 c4 xZ
    go_wp2_with (first | (go_at_call 54; refine wm.out.mono ?_; rintro e1 w1 ⟨rfl, hk1⟩; have vd := Eh (HB.out.trans hk1 (fun _ h => h.elim)); clear hk1 wm) | (go_at_call 54; refine (wC.out _).mono ?_; rintro e2 w2 ⟨rfl, hk2⟩; have vp := Eh (vd.out.trans hk2 (fun _ h => h.elim)); clear hk2 wC) | (go_at_call 54; refine (Bg.out _).mono ?_; rintro e3 w3 ⟨rfl, hk3⟩; have vD := Eh (vp.out.trans hk3 (fun _ h => h.elim)); clear hk3 Bg))
    go_roundw
    case rel => exact ⟨k + 1, by omega, by go_num, by rw [HN.out]; rfl, vD.out⟩
    case measure => simp [intOf]; omega
  ·have hki : ¬ (k : Int) ≤ 6 := by omega
   obtain rfl : k = 7 := by omega
   obtain ⟨t, ht⟩ : ∃ t, d8 a b 7 = t := ⟨_, rfl⟩
   rw [ht] at AS ⊢
   clear ht
   by_cases c3 : t < 0
   ·have HR := Eh (show (0 : Int) = res by rw [← AS.out, if_pos c3])
    go_wp2_with fail
    go_ret
    exact ⟨by rw [← HR.out]; rfl, HB.out⟩
   ·have HR := Eh (show t = res by rw [← AS.out, if_neg c3])
    go_wp2_with fail
    go_ret
    exact ⟨by rw [← HR.out]; rfl, HB.out⟩
theorem tz {w : World} {v u : Value} {xs : List (List Val)} {y : List Val} (h1 : RowsRd w v xs) (h2 : da w u y) :
  Calls Tryz.prog 55 #[v, u] w fun e w' => e = .returned (.bool (dt xs y)) ∧ Kept (fun _ => False) w w' := by
 obtain ⟨a1, c1, rfl, n1, m1, _⟩ := h1.shape
 obtain ⟨ua, un, uc, rfl⟩ : ∃ a n c, u = .slice a n c := by obtain ⟨_, _, a, c, h, _⟩ := id h2; exact ⟨a, _, c, h⟩
 have H1 := Eh h1
 have H2 := Eh h2
 clear h1 h2
 obtain ⟨N, hN⟩ : ∃ N, xs.length = N := ⟨_, rfl⟩
 have HN := Eh hN
 have HI := Eh (show dt xs y = xs.any (fun x => decide (x = y)) from rfl)
 rw [hN] at H1 n1 m1 ⊢
 clear hN
 go_enter Tryz.func55, Tryz.ntmps55
 go_wp2_with fail
 go_loopw [5] (fun i wr => ∃ j : Nat, i = .int .i64 j ∧ j ≤ N ∧ (xs.take j).any (fun x => decide (x = y)) = false ∧ Kept (fun _ => False) w wr) (fun i _ => N - (intOf i).toNat)
 case atStart => exact ⟨0, rfl, by omega, rfl, Kept.refl _ _⟩
 case round =>
  obtain ⟨j, rfl, hj, hn, hk⟩ := hrel
  have vT := Eh hn
  have HK := Eh hk
  clear hn hk
  by_cases hlt : j < N
  ·have hji : (j : Int) < (N : Int) := by omega
   obtain ⟨r, hr⟩ : ∃ r, xs[j]? = some r := ⟨xs[j]'(by rw [HN.out]; exact hlt), List.getElem?_eq_getElem _⟩
   obtain ⟨g1, o1, ra1, rc1, hg1, y1, hrow1, hl1, hrc1⟩ := fd (H1.out.kept HK.out) hr
   have yE := Eh hr
   subst hg1
   have HC := Eh (od hrow1 (H2.out.kept HK.out (fun _ _ h => h)))
   clear hr hrow1
   obtain ⟨b, hb⟩ : ∃ b, decide (r = y) = b := ⟨_, rfl⟩
   rw [hb] at HC
   have HB := Eh hb
   clear hb
   generalize r.length = rl at *
   cases b
   ·go_wp2_with (go_at_call 96; refine HC.out.mono ?_; rintro e3 w3 ⟨rfl, n3, rfl⟩; have vD := Eh (HK.out.drewN n3); clear HC y1)
    go_roundw
    case rel => exact ⟨j + 1, by go_num, by omega, by rw [dR _ yE.out, vT.out, HB.out]; rfl, vD.out⟩
    case measure => simp [intOf]; omega
   ·go_wp2_with (go_at_call 96; refine HC.out.mono ?_; rintro e3 w3 ⟨rfl, n3, rfl⟩; have vD := Eh (HK.out.drewN n3); clear HC y1)
    go_ret
    exact ⟨by rw [HI.out, jJ _ yE.out HB.out]; rfl, vD.out⟩
  ·have hji : ¬ ((j : Int) < (N : Int)) := by omega
   obtain rfl : j = N := by omega
   have HF := Eh (show dt xs y = false by have := vT.out; rw [List.take_of_length_le (Nat.le_of_eq HN.out)] at this; rw [HI.out]; exact this)
   go_wp2_with fail
   go_ret
   exact ⟨by rw [HF.out]; rfl, HK.out⟩
theorem up {α : Type} (q : α → Bool) {l : List α} {j : Nat} {x : α} (h : l[j]? = some x) : (l.take (j + 1)).all q = ((l.take j).all q && q x) := by
 rw [List.take_add_one, h]; simp
theorem pQ {α : Type} (q : α → Bool) {l : List α} {j : Nat} {x : α} (h : l[j]? = some x) (hq : q x = false) : l.all q = false := by
 rw [Bool.eq_false_iff]; intro ha; rw [List.all_eq_true.1 ha x (List.mem_of_getElem? h)] at hq; cases hq
theorem rF {w : World} {x y : ClmE} (hx : RdCl w x) (hy : RdCl w y) : Calls Tryz.prog 20 #[.agg x.cells.toArray, .agg y.cells.toArray] w fun r w' => r = .returned (.bool (RC.cov x.c y.c)) ∧ Kept (fun _ => False) w w' := by
 obtain ⟨W1, hW1, hk1, hb1, hb2⟩ := dV w x.cells.toArray y.cells.toArray tCl tCl
 have HP := Eh (show RC.cov x.c y.c = (RC.same x.c y.c && aO x.mode y.mode && y.imgs.all (fun r => dt x.imgs r)) from rfl)
 have uW := Eh hW1
 have vd := Eh hk1
 have vj := Eh hb1
 have vm := Eh hb2
 have vt := Eh (az (ak hb1))
 have vH := Eh (az (ak hb2))
 have HS := Eh (eC (hx.kept hk1) (hy.kept hk1))
 have HX := Eh (hx.1.kept hk1)
 have HY := Eh (hy.1.kept hk1)
 obtain ⟨ya, yc, hsl, n1, m1, _⟩ := hy.1.shape
 have yT := Eh hsl
 have vE := Eh (show ∀ W, Calls Tryz.prog 54 #[.int .i64 x.mode, .int .i64 y.mode] W fun e w' => e = .returned (.bool (aO x.mode y.mode)) ∧ Kept (fun _ => False) W w' from k7 x.mode y.mode)
 obtain ⟨s, hs⟩ : ∃ s, RC.same x.c y.c = s := ⟨_, rfl⟩
 obtain ⟨m, hm⟩ : ∃ m, aO x.mode y.mode = m := ⟨_, rfl⟩
 rw [hs] at HS HP
 rw [hm] at vE HP
 obtain ⟨N, hN⟩ : ∃ N, y.imgs.length = N := ⟨_, rfl⟩
 have HN := Eh hN
 rw [hsl] at HY
 rw [hN] at HY yT n1 m1
 clear hN hW1 hk1 hb1 hb2 hx hy hs hm hsl
 go_enter Tryz.func20, Tryz.ntmps20
 go_upto_region 1 with fail
 rw [← uW.out]
 clear uW
 generalize w.heap.size + 1 = b2 at *
 generalize w.heap.size = b1 at *
 go_upto_region 2 with (first | (refine ai rfl _ _ rfl _ _ rfl _ vt.out ?_) | (refine ai rfl _ _ rfl _ _ rfl _ vH.out ?_) | (go_at_call 26; refine HS.out.mono ?_; rintro r2 w2 ⟨rfl, hk2⟩; have vp := Eh hk2; clear hk2 HS vt vH))
 have vW := Eh (vd.out.trans vp.out (fun _ h => h.elim))
 have x2 := (aV (aB vp.out vj.out)).1
 have y2 := (aV (aB vp.out vm.out)).1
 cases s
 ·have HR := Eh (show RC.cov x.c y.c = false by rw [HP.out]; rfl)
  clear HP
  go_wp2_with fail
  go_ret
  exact ⟨by rw [HR.out]; rfl, vW.out⟩
 cases m
 ·have HR := Eh (show RC.cov x.c y.c = false by rw [HP.out]; rfl)
  have wC := Eh (vE.out w2)
  clear HP vE
  go_wp2_with (go_at_call 54; refine wC.out.mono ?_; rintro r3 w3 ⟨rfl, hk3⟩; have vD := Eh (vW.out.trans hk3 (fun _ h => h.elim)); clear hk3 wC x2 y2)
  go_ret
  exact ⟨by rw [HR.out]; rfl, vD.out⟩
 have HR := Eh (show RC.cov x.c y.c = y.imgs.all (fun r => dt x.imgs r) by rw [HP.out]; rfl)
 have wC := Eh (vE.out w2)
 clear HP vE
 go_upto_region 4 with (go_at_call 54; refine wC.out.mono ?_; rintro r3 w3 ⟨rfl, hk3⟩; have vD := Eh (vp.out.trans hk3 (fun _ h => h.elim)); clear hk3 wC x2 y2)
 have HB1' := Eh (aB vD.out vj.out)
 have HB2' := Eh (aB vD.out vm.out)
 have HX' := Eh (HX.out.kept vD.out)
 have HY' := Eh (HY.out.kept vD.out)
 have Dc := Eh (vd.out.trans vD.out (fun _ h => h.elim))
 clear vd vp vD vW vj vm HX HY
 obtain ⟨y2, y6⟩ := aV HB2'.out
 rw [yT.out] at y6
 go_wp2_with fail
 go_loopw [6] (fun i wr => ∃ j : Nat, i = .int .i64 j ∧ j ≤ N ∧ (y.imgs.take j).all (fun r => dt x.imgs r) = true ∧ Kept (fun _ => False) w3 wr) (fun i _ => N - (intOf i).toNat)
 case atStart => exact ⟨0, rfl, by omega, rfl, Kept.refl _ _⟩
 case round =>
  obtain ⟨j, rfl, hj, hn, hk⟩ := hrel
  have vT := Eh hn
  have HK := Eh hk
  clear hn hk y2 y6
  have y6 := (aV (aB HK.out HB2'.out)).2
  have x6 := (aV (aB HK.out HB1'.out)).2
  rw [yT.out] at y6
  by_cases hlt : j < N
  ·have hji : (j : Int) < (N : Int) := by omega
   obtain ⟨r, hr⟩ : ∃ r, y.imgs[j]? = some r := ⟨y.imgs[j]'(by rw [HN.out]; exact hlt), List.getElem?_eq_getElem _⟩
   obtain ⟨g2, o2, ra2, rc2, hg2, z2, hrow2, hl2, hrc2⟩ := fd (HY'.out.kept HK.out) hr
   have yE := Eh hr
   rw [hg2] at y6
   have HC := Eh (tz (w := wr.drew) (HX'.out.kept HK.out.drew) (show da wr.drew _ r from hrow2))
   obtain ⟨h, hh⟩ : ∃ h, dt x.imgs r = h := ⟨_, rfl⟩
   rw [hh] at HC
   have HH := Eh hh
   clear hr hrow2 hh hg2
   generalize r.length = rl at *
   go_upto_region 7 with fail
   refine ag [(0, false, 7), (1, false, 7), (2, false, 7), (3, false, 7), (4, false, 7), (5, false, 7), (6, false, 7), (7, true, 0), (8, false, 999)] (by kernel_rfl) (by kernel_rfl) ?_
   iterate 7 (refine af rfl rfl (fun K hK => ?_); go_simp; refine hK _ ?_; clear hK K)
   refine al rfl ?_
   refine aw rfl (fun K hK => ?_)
   go_simp
   refine HC.out.mono ?_
   rintro e4 w4 ⟨rfl, hk4⟩
   have wy := Eh (HK.out.drew.trans hk4 (fun _ h => h.elim))
   clear hk4 HC y6 x6 z2
   refine hK _ _ ?_
   clear hK K
   refine wpList_nil ?_
   refine And.intro ?_ ?_
   ·go_simp
   refine af rfl rfl (fun K hK => ?_); go_simp; refine hK _ ?_; clear hK K
   refine ar ?_
   cases h
   ·go_wp2_with fail
    go_ret
    exact ⟨by rw [HR.out, pQ _ yE.out HH.out]; rfl, Dc.out.trans wy.out (fun _ h => h.elim)⟩
   ·go_wp2_with fail
    go_roundw
    case rel => exact ⟨j + 1, by go_num, by omega, by rw [up _ yE.out, vT.out, HH.out]; rfl, wy.out⟩
    case measure => simp [intOf]; omega
  ·have hji : ¬ ((j : Int) < (N : Int)) := by omega
   obtain rfl : j = N := by omega
   have HF := Eh (show y.imgs.all (fun r => dt x.imgs r) = true by have := vT.out; rw [List.take_of_length_le (Nat.le_of_eq HN.out)] at this; exact this)
   go_wp2_with fail
   go_ret
   exact ⟨by rw [HR.out, HF.out]; rfl, Dc.out.trans HK.out (fun _ h => h.elim)⟩
theorem s6 {B w : World} {D : PH} {l : List HP} {ao : Option Addr} {N cap j : Nat} {rs : List (List Val)} {r : List Val} (h : RowsAt D (.slice ao N cap) rs) (hs : Sat B D w l) (hr : rs[j]? = some r) :
  ∃ g o ra rc, ao = some ⟨g, o, none⟩ ∧ w.cell? ⟨g, o + j, none⟩ = some (.slice ra r.length rc) ∧ da w (.slice ra r.length rc) r ∧ RowD D (.slice ra r.length rc) r ∧ r.length ≤ 9223372036854775807 ∧ r.length ≤ rc := by
 obtain ⟨hh, h1, hone, h2, h3⟩ := h
 have hlt : j < rs.length := (List.getElem?_eq_some_iff.1 hr).1
 obtain ⟨hv, hhv⟩ : ∃ hv, hh[j]? = some hv := ⟨hh[j]'(by omega), List.getElem?_eq_getElem (by omega)⟩
 obtain ⟨g, o, ra, rc, ha, hc, hrow, hl, hrc⟩ := fd (RowsAt.rd hs ⟨hh, h1, hone, h2, h3⟩) hr
 have hrd := h2.rd hs
 obtain ⟨_, _, ao', cap', hvv, _, _, _, hcc⟩ := hrd
 have e : w.cell? ⟨g, o + j, none⟩ = some hv := by
  rcases hcc with h0 | ⟨g', o', hg, hcell⟩
  ·omega
  ·cases hvv
   rw [ha] at hg
   cases hg
   exact hcell j hv hhv
 rw [hc] at e
 obtain rfl := Option.some.inj e
 exact ⟨g, o, ra, rc, ha, hc, hrow, h3 j _ r hhv hr, hl, hrc⟩
theorem s0 {B w : World} {D : PH} {l : List HP} {x y : ClmE} (hx : ClOk D x) (hy : ClOk D y) (hsx : ClmSm 1000000 x.c) (hsy : ClmSm 1000000 y.c) (hs : Sat B D w l) :
  Calls Tryz.prog 146 #[.agg x.cells.toArray, .agg y.cells.toArray] w (qZ B D l (RC.join x.c y.c)) := by
 obtain ⟨i0, hi, hz0, hz1, hz2⟩ := info_parts m7
 have HI := Eh (And.intro hi (And.intro hz0 (And.intro hz1 hz2)))
 obtain ⟨W1, hW1, hs1⟩ := d9 hs x.cells.toArray y.cells.toArray cZ tCl tCl tCl
 have uX := Eh hs1
 have uW := Eh hW1
 have HX := Eh hx
 have HY := Eh hy
 have C5 := Eh hsy
 have hN1 : x.imgs.length ≤ 1000000 := hsx.1
 have hM1 : y.imgs.length ≤ 1000000 := hsy.1
 have vt := Eh (az (ak (hs1.blk 0 rfl)))
 have vH := Eh (az (ak (hs1.blk 1 rfl)))
 have vN := Eh (eC (hx.rd hs1) (hy.rd hs1))
 clear hi hz0 hz1 hz2 hx hy hs hs1 hW1 hsx hsy
 cases hsame : RC.same x.c y.c
 ·have HJ := Eh (show RC.join x.c y.c = x.c from if_neg (by rw [show cI x.c y.c = false from hsame]; simp))
  rw [HJ.out]
  rw [hsame] at vN
  clear hsame
  go_enter Tryz.func146, Tryz.ntmps146
  go_upto_region 1 with fail
  rw [← uW.out]
  clear uW
  generalize w.heap.size + 1 + 1 = b3 at *
  generalize w.heap.size + 1 = b2 at *
  generalize w.heap.size = b1 at *
  go_wp2_with (first | (refine ai rfl _ _ rfl _ _ rfl _ vt.out ?_) | (refine ai rfl _ _ rfl _ _ rfl _ vH.out ?_) | (go_at_call 26; refine vN.out.mono ?_; rintro e5 w5 ⟨rfl, hk5⟩; have hs5 := uX.out.kept hk5; have yR := Eh (az (ak (hs5.blk 0 rfl))); have uZ := Eh (hs5.front 2 rfl); clear hs5 hk5 vN vt vH uX) | (refine ai rfl _ _ rfl _ _ rfl _ yR.out ?_) | (refine ap rfl _ _ _ rfl tCl b3 rfl x.cells rfl cZ uZ.out (by kernel_rfl) rfl (ClmE.one _) ?_; intro w6 hs6; have vi := Eh hs6; clear hs6 uZ yR))
  refine bodyPost_ret (cO rfl _ _ rfl (az (ak (vi.out.blk 0 rfl)))) rfl ?_
  exact ⟨x, D, rfl, rfl, PH.le.refl _, HX.out, vi.out.drop.drop.drop⟩
 ·have HJ := Eh (show RC.join x.c y.c = { x.c with mode := dC x.mode y.mode, imgs := b7 x.imgs y.imgs } from if_pos hsame)
  rw [HJ.out]
  rw [hsame] at vN
  clear hsame
  obtain ⟨hx0, hxl, hx1, hxp, hxr⟩ := HX.out.1
  have yY := Eh (show RowsH D hx0 x.imgs from ⟨hxl, hxr⟩)
  have DF := Eh hx1
  have Cn := Eh hxp
  obtain ⟨ia, il, hil, _⟩ : ∃ a c, Value.slice y.ia y.il y.ic = .slice a y.imgs.length c ∧ y.imgs.length ≤ c ∧ y.imgs.length ≤ 9223372036854775807 ∧ c ≤ 9223372036854775807 := (HY.out.1.rd uX.out).shape
  have xX := Eh (Value.slice.inj hil).2.1
  clear hxl hx1 hxp hxr hil
  go_enter Tryz.func146, Tryz.ntmps146
  go_upto_region 1 with fail
  rw [← uW.out]
  clear uW
  generalize w.heap.size + 1 + 1 = b3 at *
  generalize w.heap.size + 1 = b2 at *
  generalize w.heap.size = b1 at *
  go_upto_region 4 with (first | (refine ai rfl _ _ rfl _ _ rfl _ vt.out ?_) | (refine ai rfl _ _ rfl _ _ rfl _ vH.out ?_) | (go_at_call 26; refine vN.out.mono ?_; rintro e5 w5 ⟨rfl, hk5⟩; have uZ := Eh (uX.out.kept hk5); clear hk5 vN vt vH uX))
  have x2 := (aV (uZ.out.blk 0 rfl)).1
  have y2 := (aV (uZ.out.blk 1 rfl)).1
  have AP := Eh (tC x.mode y.mode w5)
  have Bx := Eh (show ∃ m, m = dC x.mode y.mode from ⟨_, rfl⟩)
  obtain ⟨jm, hjm⟩ := Bx.out
  have xY := Eh hjm
  rw [← hjm] at AP
  clear hjm Bx
  go_upto_region 5 with (go_at_call 172; refine AP.out.mono ?_; rintro e6 w6 ⟨rfl, hk6⟩; have hs6 := uZ.out.kept hk6; have z2 := (aV (hs6.blk 0 rfl)).1; have zf := frz (hs6.blk 0 rfl); have vi := Eh (Sat.setM hs6 jm); clear hs6 hk6 AP uZ x2 y2)
  obtain ⟨W6, hW6, hs6⟩ := Sat.hide vi.out
  rw [← hW6]
  clear hW6 vi z2 zf
  have B9 := Eh (show Rd W6 1 (.slice x.ia x.il x.ic) x.imgs.length hx0 by have := Cn.out.rd hs6; exact this)
  have xk := Eh (hs6.own_nil tRw 1)
  have x6 := gA (hs6.blk 0 rfl)
  have y6 := gA (hs6.blk 1 rfl)
  rw [xX.out] at y6
  clear hs6
  generalize hM : y.imgs.length = M at *
  have HM := Eh hM
  clear hM
  go_upto_region 7 with (refine au _ rfl _ _ 32 rfl tRw i0 _ 1 24 Tryz.underlying32 HI.out.1 HI.out.2.1 HI.out.2.2.1 HI.out.2.2.2 rfl _ 0 _ rfl xk.out _ x.imgs.length _ rfl B9.out DF.out (by unfold maxLen; omega) (by omega) ?_; intro v7 w7 hs7 h17; obtain ⟨va7, vc7, rfl⟩ := hs7.own_shape; have vn := Eh hs7; clear hs7 h17 xk B9 x6 y6)
  have vw := Eh (show Sat B D w7 (aI tRw 1 (.slice va7 x.imgs.length vc7) x.imgs.length hx0 :: blk b1 (x.layM jm).cells.toArray tCl :: blk b2 y.cells.toArray tCl :: blk b3 cZ tCl :: l) from by have := vn.out; rw [Nat.zero_add, List.nil_append] at this; exact this)
  clear vn
  have y6 := gA (vw.out.blk 2 rfl)
  rw [xX.out] at y6
  go_wp2_with fail
  go_loopw [6, 7] (fun sv i wr => ∃ (j n : Nat) (va : Option Addr) (vc : Nat) (hs : List Value) (rs : List (List Val)), i = .int .i64 j ∧ sv = .slice va n vc ∧ j ≤ M ∧ rs = b7 x.imgs (y.imgs.take j) ∧ n = rs.length ∧ RowsH D hs rs ∧ Sat B D wr (aI tRw 1 (.slice va n vc) n hs :: blk b1 (x.layM jm).cells.toArray tCl :: blk b2 y.cells.toArray tCl :: blk b3 cZ tCl :: l)) (fun _ i _ => M - (intOf i).toNat)
  case atStart => exact ⟨0, x.imgs.length, va7, vc7, hx0, x.imgs, rfl, rfl, by omega, rfl, rfl, yY.out, vw.out⟩
  case round =>
   obtain ⟨j, n, va, vc, hs, rs, rfl, rfl, hj, hrs, hn, hrh, hs3⟩ := hrel
   have zx := Eh hrs
   have hn2 : n ≤ 2000000 := by have := (gS x.imgs (y.imgs.take j)).2; rw [← hrs, List.length_take] at this; omega
   have Af := Eh hn
   have xa := Eh hrh
   have uY := Eh hs3
   clear y6
   have y6 := gA (hs3.blk 2 rfl)
   rw [xX.out] at y6
   clear hrs hn hrh hs3
   by_cases hlt : j < M
   ·have hji : (j : Int) < (M : Int) := by omega
    obtain ⟨r, hr⟩ : ∃ r, y.imgs[j]? = some r := ⟨y.imgs[j]'(by rw [HM.out]; exact hlt), List.getElem?_eq_getElem _⟩
    obtain ⟨g, og, ra, rc, hga, y0, hrow, hrd, hrl, hrc⟩ := s6 (by have := HY.out.1; rw [xX.out] at this; exact this) uY.out hr
    have zY := Eh hga
    have HR := Eh hr
    have wX := Eh (tz (xa.out.rd uY.out (by rw [xa.out.1, ← Af.out]; exact (uY.out.own 0 rfl).rd)) hrow)
    have wF := Eh (show b7 x.imgs (y.imgs.take (j + 1)) = if dt rs r then rs else rs ++ [r] by rw [jl hr, ← zx.out])
    rw [zY.out] at y6
    clear hr hrow hga hrd
    cases hin : dt rs r
    ·rw [hin] at wX wF
     clear hin
     go_upto_region 12 with (go_at_call 55; refine wX.out.mono ?_; rintro e8 w8 ⟨rfl, hk8⟩; have vh := Eh (uY.out.kept hk8); clear hk8 wX uY y6 y0)
     obtain ⟨g, og, ra, rc, hga, y0, hrow, hrd, hrl, hrc⟩ := s6 (by have := HY.out.1; rw [xX.out] at this; exact this) vh.out HR.out
     have vk := Eh hrd
     have zY := Eh hga
     clear hrow hrd hga
     have y6 := gA (vh.out.blk 2 rfl)
     rw [xX.out, zY.out] at y6
     have wk := Eh ((vh.out.alloc #[.slice ra r.length rc] tRw).front 1 rfl)
     have yd := Eh (aS (size := 1) (n := 1) ((vh.out.alloc #[.slice ra r.length rc] tRw).blk 0 rfl) rfl (by unfold maxLen; omega))
     go_wp2_with (refine au _ rfl _ _ 32 rfl tRw i0 _ 1 24 Tryz.underlying32 HI.out.1 HI.out.2.1 HI.out.2.2.1 HI.out.2.2.2 rfl _ n _ rfl wk.out _ 1 _ rfl yd.out (by intro u hu; simp at hu; subst hu; rfl) (by unfold maxLen; omega) (by omega) ?_; intro v7 w7 hs7 h17; obtain ⟨va7, vc7, rfl⟩ := hs7.own_shape; have vn := Eh hs7; clear hs7 h17 wk yd vh y6 y0)
     have DG := Eh (show Sat B D w7 (aI tRw 1 (.slice va7 (n + 1) vc7) (n + 1) (hs ++ [Value.slice ra r.length rc]) :: blk b1 (x.layM jm).cells.toArray tCl :: blk b2 y.cells.toArray tCl :: blk b3 cZ tCl :: l) from (Sat.front (show Sat B D w7 (aI tRw 1 (.slice va7 (n + 1) vc7) (n + 1) (hs ++ [Value.slice ra r.length rc]) :: blk w8.heap.size #[Value.slice ra r.length rc] tRw :: blk b1 (x.layM jm).cells.toArray tCl :: blk b2 y.cells.toArray tCl :: blk b3 cZ tCl :: l) from vn.out) 1 rfl).drop)
     have DH := Eh (xa.out.snoc vk.out)
     clear vn
     go_roundw
     case rel => exact ⟨j + 1, n + 1, va7, vc7, hs ++ [Value.slice ra r.length rc], rs ++ [r], by go_num, rfl, by omega, by rw [wF.out]; rfl, by rw [List.length_append, Af.out]; rfl, DH.out, DG.out⟩
     case measure => simp [intOf]; omega
    ·rw [hin] at wX wF
     clear hin
     go_wp2_with (go_at_call 55; refine wX.out.mono ?_; rintro e8 w8 ⟨rfl, hk8⟩; have vh := Eh (uY.out.kept hk8); clear hk8 wX uY y6 y0)
     go_roundw
     case rel => exact ⟨j + 1, n, va, vc, hs, rs, by go_num, rfl, by omega, by rw [wF.out]; rfl, Af.out, xa.out, vh.out⟩
     case measure => simp [intOf]; omega
   ·have hji : ¬ ((j : Int) < (M : Int)) := by omega
    have hjM : j = M := by omega
    subst hjM
    have x6 := gA (uY.out.blk 1 rfl)
    have xf := frz (uY.out.blk 1 rfl)
    have uZ := Eh (Sat.setI (uY.out.front 1 rfl) va n vc rs)
    go_upto_region 14 with fail
    obtain ⟨W9, hW9, hs9⟩ := Sat.hide uZ.out
    rw [← hW9]
    clear hW9 uZ uY x6 xf y6
    have Dd := Eh (az (ak (hs9.blk 0 rfl)))
    have vu := Eh (show Sat B D W9 (blk b3 cZ tCl :: blk b1 ((x.layM jm).layI va n vc rs).cells.toArray tCl :: aI tRw 1 (.slice va n vc) n hs :: blk b2 y.cells.toArray tCl :: l) from hs9.front 3 rfl)
    clear hs9
    go_wp2_with (first | (refine ai rfl _ _ rfl _ _ rfl _ Dd.out ?_) | (refine ap rfl _ _ _ rfl tCl b3 rfl ((x.layM jm).layI va n vc rs).cells rfl cZ vu.out (by kernel_rfl) rfl (ClmE.one _) ?_; intro w6 hs6; have vi := Eh hs6; clear hs6 vu Dd))
    refine bodyPost_ret (cO rfl _ _ rfl (az (ak (vi.out.blk 0 rfl)))) rfl ?_
    have h8 := vi.out.rot.rot
    obtain ⟨D5, hle5, hrd5, hs5⟩ := h8.own_give
    have hrs : rs = b7 x.imgs y.imgs := by rw [zx.out, ← HM.out, List.take_length]
    refine ⟨(x.layM jm).layI va n vc rs, D5, rfl, ?_, hle5, ⟨?_, HX.out.2.mono hle5⟩, hs5.drop.drop.drop⟩
    ·show Clm.mk x.kind x.table jm x.key rs x.pr.p = Clm.mk x.kind x.table (dC x.mode y.mode) x.key (b7 x.imgs y.imgs) x.pr.p
     rw [xY.out, hrs]
    ·refine (xa.out.mono hle5).at ?_ (h8.own 0 rfl).2.1
     rw [xa.out.1, ← Af.out]; exact hrd5
end Go.Proofs.YtgljdkjepdknnaaGreatDoor
