/- Joined texts: The document's example (ratlinelaw11.awake) answers true. Acts, tables among a law's arguments, opened. Tables among a law's arguments, opened, with how long their rows are. For what somebody waits. -/
import Derived.Test.YtgljdkjepdknnaaGreatDoorML26
import Derived.Test.YtgljdkjepdknnaaGreatDoorML27
import Derived.Test.YtgljdkjepdknnaaGreatDoorML28
import Derived.Test.YtgljdkjepdknnaaGreatDoorML19
import Derived.Test.YtgljdkjepdknnaaGreatDoorML22
import Derived.Test.YtgljdkjepdknnaaGreatDoorML10
set_option maxHeartbeats 64000000
namespace Go.Proofs.YtgljdkjepdknnaaGreatDoor
open Go.ChangeShapes Go.WideShapes Go.ChangeAt Go.RowKit
set_option maxRecDepth 100000
set_option linter.unusedSimpArgs false
abbrev kR (o m w : Int) : Rsn := ⟨o, jK m 1, w⟩
abbrev kM0 : LkM := ⟨⟨[], []⟩, []⟩
abbrev kM1 : LkM := ⟨⟨[⟨1, jK 3 1, false⟩], []⟩, [kR 1 3 1]⟩
abbrev kM2 : LkM := ⟨⟨[⟨1, jK 3 1, false⟩], []⟩, [kR 1 3 9]⟩
abbrev kM3 : LkM := ⟨⟨[⟨1, jK 3 1, false⟩], []⟩, [kR 1 3 8]⟩
abbrev kM4 : LkM := ⟨⟨[⟨1, jK 3 1, false⟩], [⟨2, jK 6 1, false⟩]⟩, [kR 1 3 8, kR 2 6 8]⟩
abbrev kM5 : LkM := ⟨⟨[⟨2, jK 6 1, false⟩], []⟩, [kR 2 6 8]⟩
theorem kA1 : cW kM0 9 true 1 (jK 3 1) 1 0 = (kM1, true, 0) := by kernel_rfl
theorem kA2 : cW kM1 9 true 1 (jK 3 1) 3 0 = (kM2, true, 0) := by kernel_rfl
theorem kA3 : cY kM2 1 1 = (kM3, []) := by kernel_rfl
theorem kA4 : cW kM3 9 true 2 (jK 6 1) 3 0 = (kM4, false, 0) := by kernel_rfl
theorem kA5 : fM kM4 1 = (kM5, [2]) := by kernel_rfl
theorem kA6 : aN kM5.q 2 = [jK 6 1] := by kernel_rfl
theorem jF {B w : World} {D : PH} {l : List HP} (hD : EnvD D) (h : Sat B D w l) : Calls Tryz.prog 11 #[] w fun r w' => r = .returned (.bool true) ∧ Sat B D w' l := by
 obtain ⟨D0, hle0, ht0, hs0⟩ := uk h
 have xT := Eh (uz 9 ht0 (by decide) (by decide) hs0)
 have HD := Eh hD
 have Ak := Eh hle0
 clear h hle0 ht0 hs0 hD
 go_enter Tryz.func11, Tryz.ntmps11
 go_upto_region 2 with (go_at_call 12; refine xT.out.mono ?_; rintro e1 w1 ⟨L, D1, rfl, hle1, hs1⟩; have BH := Eh (Ak.out.trans hle1); have uX := Eh (show Sat B D1 w1 (cd D1 L [[false]] 9 kM0 :: l) from hs1); clear hle1 hs1 xT)
 go_upto_region 3 with (first | (go_at_call 13; refine (qt 3 1).mono ?_; rintro er wr2 ⟨rfl, hkr⟩; have HA := Eh (nV (m := kM0) 1 (iC 3 1) 1 0 (HD.out.mono BH.out) (nt _ _ _) (it _ _ _) jA mY (by decide) (by decide) (by decide) (uX.out.kept hkr)); rw [show bH [[false]] (iC 3 1).c = true from nq (by decide), show cW kM0 9 true 1 (iC 3 1).c 1 0 = _ from kA1] at HA; clear hkr) | (go_at_call 14; refine HA.out.mono ?_; rintro ea wa2 ⟨D2, rfl, hle, hs⟩; have vv := Eh (BH.out.trans hle); have vg := Eh hs; clear hle hs HA uX))
 go_upto_region 4 with (first | (go_at_call 13; refine (qt 3 1).mono ?_; rintro er wr3 ⟨rfl, hkr⟩; have HA := Eh (nV (m := kM1) 1 (iC 3 1) 3 0 (HD.out.mono vv.out) (nt _ _ _) (it _ _ _) jA (nc (it _ _ _) mY) (by decide) (by decide) (by decide) (vg.out.kept hkr)); rw [show bH [[false]] (iC 3 1).c = true from nq (by decide), show cW kM1 9 true 1 (iC 3 1).c 3 0 = _ from kA2] at HA; clear hkr) | (go_at_call 14; refine HA.out.mono ?_; rintro ea wa3 ⟨D3, rfl, hle, hs⟩; have wl := Eh (vv.out.trans hle); have uY := Eh hs; clear hle hs HA vg))
 have HE := Eh (i4 (m := kM2) 1 (HD.out.mono wl.out) (by decide) (by decide) uY.out)
 rw [show cY kM2 1 1 = _ from kA3] at HE
 go_upto_region 5 with (go_at_call 16; refine HE.out.mono ?_; rintro e4 w4 ⟨v4, D4, rfl, hle, hs⟩; have vL := Eh (wl.out.trans hle); obtain ⟨sa, sc, rfl⟩ := (hs.front 1 rfl).own_shape; have vh := Eh hs; clear hle hs HE uY)
 go_upto_region 6 with (first | (go_at_call 13; refine (qt 6 1).mono ?_; rintro er wr5 ⟨rfl, hkr⟩; have HA := Eh (nV (m := kM3) 2 (iC 6 1) 3 0 (HD.out.mono vL.out) (nt _ _ _) (it _ _ _) jA (nc (it _ _ _) mY) (by decide) (by decide) (by decide) (vh.out.kept hkr)); rw [show bH [[false]] (iC 6 1).c = true from nq (by decide), show cW kM3 9 true 2 (iC 6 1).c 3 0 = _ from kA4] at HA; clear hkr) | (go_at_call 14; refine HA.out.mono ?_; rintro ea wa5 ⟨D5, rfl, hle, hs⟩; have vC := Eh (vL.out.trans hle); have uZ := Eh hs; clear hle hs HA vh))
 have HE := Eh (ri (m := kM4) 1 (HD.out.mono vC.out) (by decide) uZ.out)
 rw [show fM kM4 1 = _ from kA5] at HE
 go_upto_region 7 with (go_at_call 29; refine HE.out.mono ?_; rintro e6 w6 ⟨v6, D6, rfl, hle, hs⟩; have vF := Eh (vC.out.trans hle); have vi := Eh hs; clear hle hs HE uZ)
 have Al := Eh (newInt vi.out 2)
 have xK := Eh (jW (r := true) (Al.out.1.own 2 rfl).rd Al.out.2 (by decide))
 go_wp2_with (first
  | (go_at_call 30; refine xK.out.mono ?_; rintro e9 w9 ⟨rfl, hk⟩; have vn := Eh (Al.out.1.kept hk).drop; have vK := Eh (Len_L (m := kM5) (by decide) vn.out); clear hk xK Al vi)
  | (go_at_call 27; refine vK.out.mono ?_; rintro e10 w10 ⟨rfl, hk⟩; have vw := Eh (vn.out.kept hk); have wH := Eh (gy (m := kM5) 2 (by decide) (nc (it _ _ _) mY) vw.out); rw [show aN kM5.q 2 = _ from kA6] at wH; clear hk vK vn)
  | (go_at_call 17; refine wH.out.mono ?_; rintro e11 w11 ⟨v11, D11, rfl, hle, hs⟩; have BI := Eh (vF.out.trans hle); obtain ⟨cs, hcs, _, hs2⟩ := dE hs; obtain ⟨va, vc, rfl⟩ := hs2.own_shape; have hcl : cs.length = 1 := (by have := congrArg List.length hcs; simpa using this); rw [hcl] at hs2 ⊢; have vl := Eh hs2; clear hle hs hs2 hcs hcl wH vw))
 go_ret
 exact ⟨rfl, vl.out.drop.drop.drop.drop.less BI.out⟩
end Go.Proofs.YtgljdkjepdknnaaGreatDoor
namespace Go.Proofs.YtgljdkjepdknnaaGreatDoor
open Go.ChangeShapes Go.WideShapes Go.ChangeAt Go.RowKit Go.Deep
set_option maxRecDepth 100000
set_option linter.unusedSimpArgs false
structure ActE where
 kind : Int
 owner : Int
 x : ClmE
 dur : Int
 hand : Int
 table : Int
 many : Int
instance : Inhabited ActE := ⟨⟨0, 0, default, 0, 0, 0, 0⟩⟩
def ActE.cells (a : ActE) : List Value := [.int .i64 a.kind, .int .i64 a.owner, .int .i64 a.x.kind, .int .i64 a.x.table, .int .i64 a.x.mode, .bool a.x.key.t, .int .i64 a.x.key.n, .string a.x.key.s, .slice a.x.ia a.x.il a.x.ic, .int .i64 a.x.pr.op, .int .i64 a.x.pr.col, .bool a.x.pr.v.t, .int .i64 a.x.pr.v.n, .string a.x.pr.v.s, .bool a.x.pr.w.t, .int .i64 a.x.pr.w.n, .string a.x.pr.w.s, .slice a.x.pr.la a.x.pr.ln a.x.pr.lc, .int .i64 a.dur, .int .i64 a.hand, .int .i64 a.table, .int .i64 a.many]
theorem ActE.len (a : ActE) : a.cells.length = 22 := rfl
abbrev uq : TypeId := 50
theorem mX {w : World} {g o : Nat} {a : ActE} (h : w.rangeAt g o a.cells) : (loadVar uq ⟨g, o, none⟩).run Tryz.prog w = .ok (.agg a.cells.toArray) w := run_loadVar_mid w g o _ _ _ h Tryz.underlying50 rfl (by kernel_rfl)
theorem nT {w : World} {g o : Nat} {a : ActE} (h : w.rangeAt g o a.cells) : w.rangeAt g (o + 2) a.x.cells := fun i u hu => by
 have hi : i < 16 := by have := (List.getElem?_eq_some_iff.1 hu).1; rwa [ClmE.len] at this
 rw [Nat.add_assoc, Nat.add_comm 2 i]
 refine h (i + 2) u ?_
 show (a.x.cells ++ [.int .i64 a.dur, .int .i64 a.hand, .int .i64 a.table, .int .i64 a.many])[i]? = _
 rw [List.getElem?_append_left (by rw [ClmE.len]; exact hi)]
 exact hu
def kT (w : World) (v : Value) (l : List ActE) : Prop := Rd w 22 v l.length (l.flatMap ActE.cells) ∧ ∀ a ∈ l, RdCl w a.x ∧ bV a.x.c
def ActsD (D : PH) (v : Value) (l : List ActE) : Prop := RdP D 22 v l.length (l.flatMap ActE.cells) ∧ ∀ a ∈ l, ClOk D a.x ∧ bV a.x.c
theorem ActsD.mono {D D' : PH} {v : Value} {l : List ActE} (h : ActsD D v l) (le : PH.le D D') : ActsD D' v l := ⟨h.1.mono le, fun a ha => ⟨(h.2 a ha).1.mono le, (h.2 a ha).2⟩⟩
theorem ActsD.of_rd {w : World} {v : Value} {l : List ActE} (h : kT w v l) : ActsD (cw w) v l := ⟨RdP.of_rd h.1 (by omega), fun a ha => ⟨ClOk.of_rd (h.2 a ha).1, (h.2 a ha).2⟩⟩
theorem ActsD.shape {D : PH} {v : Value} {l : List ActE} (h : ActsD D v l) : ∃ ao cap, v = .slice ao l.length cap ∧ l.length ≤ 9223372036854775807 := by
 obtain ⟨ao, cap, hv⟩ := h.1.shape
 exact ⟨ao, cap, hv, h.1.len⟩
theorem oF {B w : World} {D : PH} {l' : List HP} {ao : Option Addr} {N cap j : Nat} {l : List ActE} {a : ActE} (h : ActsD D (.slice ao N cap) l) (hs : Sat B D w l') (hl : l.length = N) (ha : l[j]? = some a) :
  ∃ g o, ao = some ⟨g, o, none⟩ ∧ w.rangeAt g (o + j * 22) a.cells ∧ w.rangeAt g (o + j * 22 + 2) a.x.cells ∧ ClOk D a.x ∧ bV a.x.c := by
 obtain ⟨g, o, hg, hr⟩ := aF ActE.len (by have := h.1.rd hs; rw [hl] at this; exact this) ha hl
 exact ⟨g, o, hg, hr, nT hr, h.2 a (List.mem_of_getElem? ha)⟩
section
variable {H : Type} {enc : TypeId × Value → H} {P : Program} {w : World} {base : Nat} {spare : Nat → Bool} {held : Bool}
theorem uN {t : TypeId} {f0 f1 f2 f3 f4 f5 f6 : Field} {fuel : Nat} {cs : List Value} {x : DataW H × List MemPlace} (ht : P.underlying t = some (.struct #[f0, f1, f2, f3, f4, f5, f6])) (h : DataW.trod enc P w base spare held fuel t cs = some x) :
  ∃ y0 y1 y2 y3 y4 y5 y6 n, fuel = n + 1 ∧ cs.length = P.cellsOf t ∧ DataW.trod enc P w base spare held n f0.type ((cs.drop f0.offset).take (P.cellsOf f0.type)) = some y0 ∧ DataW.trod enc P w base spare held n f1.type ((cs.drop f1.offset).take (P.cellsOf f1.type)) = some y1 ∧ DataW.trod enc P w base spare held n f2.type ((cs.drop f2.offset).take (P.cellsOf f2.type)) = some y2 ∧ DataW.trod enc P w base spare held n f3.type ((cs.drop f3.offset).take (P.cellsOf f3.type)) = some y3 ∧ DataW.trod enc P w base spare held n f4.type ((cs.drop f4.offset).take (P.cellsOf f4.type)) = some y4 ∧ DataW.trod enc P w base spare held n f5.type ((cs.drop f5.offset).take (P.cellsOf f5.type)) = some y5 ∧ DataW.trod enc P w base spare held n f6.type ((cs.drop f6.offset).take (P.cellsOf f6.type)) = some y6 := by
 obtain ⟨xs, n, hn, rfl, hl, hlen, hf⟩ := DataW.trod_struct ht h
 match xs, hlen with
 | [y0, y1, y2, y3, y4, y5, y6], _ => exact ⟨y0, y1, y2, y3, y4, y5, y6, n, hn, hl, by simpa using hf 0 f0 rfl, by simpa using hf 1 f1 rfl, by simpa using hf 2 f2 rfl, by simpa using hf 3 f3 rfl, by simpa using hf 4 f4 rfl, by simpa using hf 5 f5 rfl, by simpa using hf 6 f6 rfl⟩
end
section
variable {H : Type} {enc : TypeId × Value → H} {w : World} {base : Nat} {spare : Nat → Bool} {held : Bool}
theorem mo : Tryz.prog.cellsOf 50 = 22 := by kernel_rfl
theorem mw {fuel : Nat} {cs : List Value} {x : DataW H × List MemPlace} (h : DataW.trod enc Tryz.prog w base spare held fuel 50 cs = some x) : ∃ a : ActE, cs = a.cells ∧ RdCl w a.x ∧ bV a.x.c := by
 obtain ⟨y0, y1, y2, y3, y4, y5, y6, n, _, hl, t0, t1, t2, t3, t4, t5, t6⟩ := uN Tryz.underlying50 h
 rw [mo] at hl
 simp only [jz, pw] at t0 t1 t2 t3 t4 t5 t6
 match cs, hl with
 | [c0, c1, c2, c3, c4, c5, c6, c7, c8, c9, c10, c11, c12, c13, c14, c15, c16, c17, c18, c19, c20, c21], _ =>
  simp only [List.drop, List.take] at t0 t1 t2 t3 t4 t5 t6
  obtain ⟨z0, hz0, _, _⟩ := DataW.trod_int Tryz.underlying3 t0
  obtain ⟨z1, hz1, _, _⟩ := DataW.trod_int Tryz.underlying3 t1
  obtain ⟨c, hc, hrd, hf⟩ := oS t2
  obtain ⟨z2, hz2, _, _⟩ := DataW.trod_int Tryz.underlying3 t3
  obtain ⟨z3, hz3, _, _⟩ := DataW.trod_int Tryz.underlying3 t4
  obtain ⟨z4, hz4, _, _⟩ := DataW.trod_int Tryz.underlying3 t5
  obtain ⟨z5, hz5, _, _⟩ := DataW.trod_int Tryz.underlying3 t6
  simp only [List.cons.injEq, and_true] at hz0 hz1 hz2 hz3 hz4 hz5
  simp only [ClmE.cells, List.cons.injEq, and_true] at hc
  obtain ⟨rfl, rfl, rfl, rfl, rfl, rfl, rfl, rfl, rfl, rfl, rfl, rfl, rfl, rfl, rfl, rfl⟩ := hc
  subst hz0 hz1 hz2 hz3 hz4 hz5
  exact ⟨⟨z0, z1, c, z2, z3, z4, z5⟩, rfl, hrd, hf⟩
theorem iV {fuel : Nat} {cs : List Value} {x : DataW H × List MemPlace} (h : DataW.trod enc Tryz.prog w base spare held fuel 48 cs = some x) : ∃ (v : Value) (l : List ActE), cs = [v] ∧ kT w v l := by
 obtain ⟨v, l, hc, hrd, hl⟩ := jd (f := ActE.cells) (G := fun a : ActE => RdCl w a.x ∧ bV a.x.c) Tryz.underlying48 mo (by omega) ActE.len (fun m hm cs d hd => by exact mw hd) h
 exact ⟨v, l, hc, hrd, hl⟩
theorem mT : Tryz.prog.cellsOf 27 = 1 := by kernel_rfl
theorem eD {w : World} {b : Nat} {a : ActE} {t : TypeId} {fr : Nat × Nat} (h : w.heap[b]? = some (.cells a.cells.toArray t fr)) :
  w.cell? ⟨b, 0, none⟩ = some (.int .i64 a.kind) ∧ w.cell? ⟨b, 1, none⟩ = some (.int .i64 a.owner) ∧ w.cell? ⟨b, 18, none⟩ = some (.int .i64 a.dur) ∧ w.cell? ⟨b, 19, none⟩ = some (.int .i64 a.hand) ∧ w.cell? ⟨b, 20, none⟩ = some (.int .i64 a.table) ∧ w.cell? ⟨b, 21, none⟩ = some (.int .i64 a.many) := by
 refine ⟨?_, ?_, ?_, ?_, ?_, ?_⟩ <;> simp [World.cell?, h, ActE.cells]
theorem fY {w : World} {b : Nat} {a : ActE} {t : TypeId} {fr : Nat × Nat} (h : w.heap[b]? = some (.cells a.cells.toArray t fr)) : w.rangeAt b 2 a.x.cells := by
 have := nT (ak h)
 simpa using this
end
section
variable {H : Type} {enc : TypeId × Value → H} {w : World} {base : Nat} {spare : Nat → Bool} {held : Bool}
theorem pU : Tryz.prog.bytesOf 4 = 1 := by kernel_rfl
theorem pv {fuel : Nat} {cs : List Value} {x : DataW H × List MemPlace} (hsp : ∀ b, spare b = true) (h : DataW.trod enc Tryz.prog w base spare held fuel 25 cs = some x) :
  ∃ (v : Value) (r : List Bool), cs = [v] ∧ Rd w 1 v r.length (r.flatMap dX) ∧ ((x.1.weights Tryz.prog 25).all (· ≤ reachBytes) = true → r.length ≤ 140737488355328) := by
 obtain ⟨v, l, rfl, hrd, hx⟩ := ry (f := dX) (G := fun (_ : Bool) _ => True) Tryz.underlying25 lx (by omega) blen (fun _ _ _ _ hd => by
  obtain ⟨b, hb, _⟩ := DataW.trod_bool Tryz.underlying4 hd
  exact ⟨b, hb, trivial⟩) hsp h
 refine ⟨v, l, rfl, hrd, fun hz => ?_⟩
 rcases hx with ⟨_, rfl⟩ | ⟨ds, sp, h1, h2, _⟩
 ·exact Nat.zero_le _
 ·rw [h1] at hz
  have := List.all_eq_true.1 hz ((ds.length + sp.length) * Tryz.prog.bytesOf 4) (by simp [DataW.weights, Tryz.underlying25])
  simp only [pU, decide_eq_true_eq] at this
  unfold reachBytes at this
  omega
theorem oL {fuel : Nat} {cs : List Value} {x : DataW H × List MemPlace} (hsp : ∀ b, spare b = true) (h : DataW.trod enc Tryz.prog w base spare held fuel 27 cs = some x) :
  ∃ (v : Value) (r : List Bool), cs = [v] ∧ Rd w 1 v r.length (r.flatMap dX) ∧ ((x.1.weights Tryz.prog 27).all (· ≤ reachBytes) = true → r.length ≤ 140737488355328) := by
 obtain ⟨xs, n, hn, rfl, hl, hlen, hf⟩ := DataW.trod_struct Tryz.underlying27 h
 rw [mT] at hl
 match xs, hlen with
 | [y0], _ =>
  have t0 := hf 0 _ rfl
  match cs, hl with
  | [c0], _ =>
   obtain ⟨v, r, hc, hr, hz⟩ := pv (x := y0) (cs := [c0]) hsp (by
    have h9 : [y0][0]? = some y0 := rfl
    rw [h9] at t0
    exact t0)
   refine ⟨v, r, hc, hr, fun hs => hz ?_⟩
   simp only [DataW.weights, Tryz.underlying27] at hs
   exact ek hs 0 _ _ rfl rfl
theorem gq {fuel : Nat} {cs : List Value} {x : DataW H × List MemPlace} (hsp : ∀ b, spare b = true) (h : DataW.trod enc Tryz.prog w base spare held fuel 28 cs = some x) :
  ∃ (v : Value) (ts : List (List Bool)), cs = [v] ∧ TblsRd w v ts ∧ ((x.1.weights Tryz.prog 28).all (· ≤ reachBytes) = true → ∀ c ∈ ts, c.length ≤ 140737488355328) := by
 obtain ⟨v, l, rfl, hrd, hx⟩ := ry (f := fun a : Value × List Bool => [a.1]) (G := fun (a : Value × List Bool) d => Rd w 1 a.1 a.2.length (a.2.flatMap dX) ∧ ((d.weights Tryz.prog 27).all (· ≤ reachBytes) = true → a.2.length ≤ 140737488355328)) Tryz.underlying28 mT (by omega) (fun _ => rfl) (fun _ _ _ _ hd => by
  obtain ⟨v, r, he, hr, hz⟩ := oL hsp hd
  exact ⟨(v, r), he, hr, hz⟩) hsp h
 have hfl : l.flatMap (fun a : Value × List Bool => [a.1]) = l.map Prod.fst := by
  clear hrd hx
  induction l with
  | nil => rfl
  | cons a l ih => rw [List.flatMap_cons, ih]; rfl
 rw [hfl] at hrd
 refine ⟨v, l.map Prod.snd, rfl, ⟨l.map Prod.fst, by simp, by simpa using hrd, fun i u r hu hr => ?_⟩, fun hz c hc => ?_⟩
 ·rw [List.getElem?_map] at hu hr
  cases hl : l[i]? with
  | none => rw [hl] at hu; cases hu
  | some a =>
   rw [hl] at hu hr
   obtain rfl := Option.some.inj hu
   obtain rfl := Option.some.inj hr
   rcases hx with ⟨_, rfl⟩ | ⟨ds, sp, _, _, h2⟩
   ·cases hl
   ·obtain ⟨d, _, hg⟩ := h2 i a hl
    exact hg.1
 ·obtain ⟨a, ha, rfl⟩ := List.mem_map.1 hc
  obtain ⟨i, hi⟩ := List.getElem?_of_mem ha
  rcases hx with ⟨_, rfl⟩ | ⟨ds, sp, h1, _, h2⟩
  ·cases ha
  ·obtain ⟨d, hd, hg⟩ := h2 i a hi
   refine hg.2 (List.all_eq_true.2 fun n hn => List.all_eq_true.1 hz n ?_)
   rw [h1]
   simp only [DataW.weights, Tryz.underlying28, List.mem_cons, List.mem_append]
   exact .inr (.inl (hC hd n hn))
end
end Go.Proofs.YtgljdkjepdknnaaGreatDoor
namespace Go.Proofs.YtgljdkjepdknnaaGreatDoor
open Go.ChangeShapes Go.WideShapes Go.ChangeAt Go.RowKit
set_option maxRecDepth 100000
set_option linter.unusedSimpArgs false
def WaitsL (B : World) (D : PH) (l : List HP) (L : Nat) (ts : List (List Bool)) (room : Int) (m : LkM) (o : Int) (e : Ending) (w' : World) : Prop := ∃ (z : ClmE) (D' : PH), e = .returned (.tuple #[.agg z.cells.toArray, .bool (aP m.q o).2]) ∧ z.c = (aP m.q o).1 ∧ PH.le D D' ∧ ClOk D' z ∧ Sat B D' w' (cd D L ts room m :: l)
section
variable {B w : World} {D : PH} {l : List HP} {L : Nat} {ts : List (List Bool)} {room : Int} {m : LkM}
theorem kF (o : Int) (hsm : ClmSm 1000000 (aP m.q o).1) (h : Sat B D w (cd D L ts room m :: l)) :
  Calls Tryz.prog 25 #[.pointer (some ⟨L, 0, none⟩), .int .i64 o] w (WaitsL B D l L ts room m o) := by
 obtain ⟨q, tv, rv, rs, ht, hr, h1⟩ := ch h
 have HT := Eh ht
 have HR := Eh hr
 have wx := Eh hsm
 obtain ⟨W1, hW1, hs1⟩ := Sat.hide (h1.alloc cZ tCl)
 have uW := Eh hW1
 obtain ⟨c0, c1, c2, c3, _⟩ := bF (hs1.blk 1 rfl)
 have HW := Eh (m8 o (hs1.front 2 rfl))
 clear h ht hr h1 hW1 hs1 hsm
 go_enter Tryz.func25, Tryz.ntmps25
 go_upto_region 1 with fail
 rw [← uW.out]
 clear uW
 generalize w.heap.size = br at HW ⊢
 go_upto_region 4 with (first
  | (go_at_call 42; refine HW.out.mono ?_; rintro e2 w2 ⟨z, rfl, hzc, hzo, hs2⟩; have yk := Eh hzc; have yH := Eh hzo; have vg := Eh (hs2.alloc z.cells.toArray tCl); clear hzc hzo hs2 HW c0 c1 c2 c3)
  | (refine ax rfl _ _ _ rfl z.cells _ _ rfl rfl (by kernel_rfl) rfl (ClmE.one z) ?_))
 obtain ⟨W3, hW3, hs3⟩ := Sat.hide vg.out
 rw [← hW3]
 clear hW3 vg
 generalize w2.heap.size = bz at hs3 ⊢
 have HL := Eh (az (ak (hs3.blk 0 rfl)))
 have wA := Eh (kG yH.out (by rw [yk.out]; exact wx.out) hs3)
 clear hs3
 go_wp2_with (first
  | (refine ai rfl _ _ rfl _ _ rfl _ HL.out ?_)
  | (go_at_call 45; refine wA.out.mono ?_; rintro e4 w4 ⟨y, D4, rfl, hyc, hle, hyo, hs4⟩; have Ag := Eh hyc; have vz := Eh hle; have Dg := Eh hyo; have vh := Eh (hs4.front 2 rfl); clear hyc hle hyo hs4 wA HL)
  | (refine ap rfl _ _ _ rfl tCl br rfl y.cells rfl cZ vh.out (by kernel_rfl) rfl (ClmE.one y) ?_; intro w5 hs5; have uZ := Eh hs5; clear hs5 vh))
 refine bodyPost_ret (aL rfl _ _ rfl (az (ak (uZ.out.blk 0 rfl)))) rfl ?_
 refine ⟨y, D4, rfl, by rw [Ag.out, yk.out], vz.out, Dg.out, ?_⟩
 have h6 := (uZ.out.drop.front 0 rfl).drop
 exact bQ HT.out HR.out (h6.front 1 rfl)
end
end Go.Proofs.YtgljdkjepdknnaaGreatDoor
