/- Joined texts: The document's example (ratlinelaw11.awake) answers true. Acts, tables among a law's arguments, opened. Tables among a law's arguments, opened, with how long their rows are. -/
import Derived.Test.YtgljdkjepdknnaaGreatDoorMT26
import Derived.Test.YtgljdkjepdknnaaGreatDoorMT27
import Derived.Test.YtgljdkjepdknnaaGreatDoorMT28
import Derived.Test.YtgljdkjepdknnaaGreatDoorMT19
import Derived.Test.YtgljdkjepdknnaaGreatDoorMT22
import Derived.Test.YtgljdkjepdknnaaGreatDoorMT10
set_option maxHeartbeats 64000000
namespace Go.Proofs.YtgljdkjepdknnaaGreatDoor
open Go.ChangeShapes Go.WideShapes Go.ChangeAt Go.RowKit
set_option maxRecDepth 100000
set_option linter.unusedSimpArgs false
abbrev kR (o m w : Int) : Rsn := ⟨o, iV m 1, w⟩
abbrev kM0 : LkM := ⟨⟨[], []⟩, []⟩
abbrev kM1 : LkM := ⟨⟨[⟨1, iV 3 1, false⟩], []⟩, [kR 1 3 1]⟩
abbrev kM2 : LkM := ⟨⟨[⟨1, iV 3 1, false⟩], []⟩, [kR 1 3 9]⟩
abbrev kM3 : LkM := ⟨⟨[⟨1, iV 3 1, false⟩], []⟩, [kR 1 3 8]⟩
abbrev kM4 : LkM := ⟨⟨[⟨1, iV 3 1, false⟩], [⟨2, iV 6 1, false⟩]⟩, [kR 1 3 8, kR 2 6 8]⟩
abbrev kM5 : LkM := ⟨⟨[⟨2, iV 6 1, false⟩], []⟩, [kR 2 6 8]⟩
theorem kA1 : dO kM0 9 true 1 (iV 3 1) 1 0 = (kM1, true, 0) := by kernel_rfl
theorem kA2 : dO kM1 9 true 1 (iV 3 1) 3 0 = (kM2, true, 0) := by kernel_rfl
theorem kA3 : di kM2 1 1 = (kM3, []) := by kernel_rfl
theorem kA4 : dO kM3 9 true 2 (iV 6 1) 3 0 = (kM4, false, 0) := by kernel_rfl
theorem kA5 : gM kM4 1 = (kM5, [2]) := by kernel_rfl
theorem kA6 : aE kM5.q 2 = [iV 6 1] := by kernel_rfl
theorem qm {B w : World} {D : PH} {l : List HP} (hD : EnvD D) (h : Sat B D w l) : Calls Tryz.prog 11 #[] w fun r w' => r = .returned (.bool true) ∧ Sat B D w' l := by
 obtain ⟨D0, hle0, ht0, hs0⟩ := rT h
 have wD := BO (New_L 9 ht0 (by decide) (by decide) hs0)
 have HD := BO hD
 have xR := BO hle0
 clear h hle0 ht0 hs0 hD
 go_enter Tryz.func11, Tryz.ntmps11
 go_upto_region 2 with (go_at_call 12; refine wD.out.mono ?_; rintro e1 w1 ⟨L, D1, rfl, hle1, hs1⟩; have zr := BO (xR.out.trans hle1); have sS := BO (show Sat B D1 w1 (b7 D1 L [[false]] 9 kM0 :: l) from hs1); clear hle1 hs1 wD)
 go_upto_region 3 with (first | (go_at_call 13; refine (nY 3 1).mono ?_; rintro er wr2 ⟨rfl, hkr⟩; have HA := BO (o6 (m := kM0) 1 (gN 3 1) 1 0 (HD.out.mono zr.out) (mg _ _ _) (gK _ _ _) iZ mq (by decide) (by decide) (by decide) (sS.out.kept hkr)); rw [show bK [[false]] (gN 3 1).c = true from me (by decide), show dO kM0 9 true 1 (gN 3 1).c 1 0 = _ from kA1] at HA; clear hkr) | (go_at_call 14; refine HA.out.mono ?_; rintro ea wa2 ⟨D2, rfl, hle, hs⟩; have tr := BO (zr.out.trans hle); have sX := BO hs; clear hle hs HA sS))
 go_upto_region 4 with (first | (go_at_call 13; refine (nY 3 1).mono ?_; rintro er wr3 ⟨rfl, hkr⟩; have HA := BO (o6 (m := kM1) 1 (gN 3 1) 3 0 (HD.out.mono tr.out) (mg _ _ _) (gK _ _ _) iZ (lX (gK _ _ _) mq) (by decide) (by decide) (by decide) (sX.out.kept hkr)); rw [show bK [[false]] (gN 3 1).c = true from me (by decide), show dO kM1 9 true 1 (gN 3 1).c 3 0 = _ from kA2] at HA; clear hkr) | (go_at_call 14; refine HA.out.mono ?_; rintro ea wa3 ⟨D3, rfl, hle, hs⟩; have vo := BO (tr.out.trans hle); have sU := BO hs; clear hle hs HA sX))
 have HE := BO (jQ (m := kM2) 1 (HD.out.mono vo.out) (by decide) (by decide) sU.out)
 rw [show di kM2 1 1 = _ from kA3] at HE
 go_upto_region 5 with (go_at_call 16; refine HE.out.mono ?_; rintro e4 w4 ⟨v4, D4, rfl, hle, hs⟩; have tI := BO (vo.out.trans hle); obtain ⟨sa, sc, rfl⟩ := (hs.front 1 rfl).own_shape; have sY := BO hs; clear hle hs HE sU)
 go_upto_region 6 with (first | (go_at_call 13; refine (nY 6 1).mono ?_; rintro er wr5 ⟨rfl, hkr⟩; have HA := BO (o6 (m := kM3) 2 (gN 6 1) 3 0 (HD.out.mono tI.out) (mg _ _ _) (gK _ _ _) iZ (lX (gK _ _ _) mq) (by decide) (by decide) (by decide) (sY.out.kept hkr)); rw [show bK [[false]] (gN 6 1).c = true from me (by decide), show dO kM3 9 true 2 (gN 6 1).c 3 0 = _ from kA4] at HA; clear hkr) | (go_at_call 14; refine HA.out.mono ?_; rintro ea wa5 ⟨D5, rfl, hle, hs⟩; have tz := BO (tI.out.trans hle); have sV := BO hs; clear hle hs HA sY))
 have HE := BO (End_L (m := kM4) 1 (HD.out.mono tz.out) (by decide) sV.out)
 rw [show gM kM4 1 = _ from kA5] at HE
 go_upto_region 7 with (go_at_call 29; refine HE.out.mono ?_; rintro e6 w6 ⟨v6, D6, rfl, hle, hs⟩; have tw := BO (tz.out.trans hle); have s0 := BO hs; clear hle hs HE sV)
 have yj := BO (newInt s0.out 2)
 have uY := BO (jS (r := true) (yj.out.1.own 2 rfl).rd yj.out.2 (by decide))
 go_wp2_with (first
  | (go_at_call 30; refine uY.out.mono ?_; rintro e9 w9 ⟨rfl, hk⟩; have td := BO (yj.out.1.kept hk).drop; have tE := BO (Len_L (m := kM5) (by decide) td.out); clear hk uY yj s0)
  | (go_at_call 27; refine tE.out.mono ?_; rintro e10 w10 ⟨rfl, hk⟩; have tj := BO (td.out.kept hk); have ue := BO (iy (m := kM5) 2 (by decide) (lX (gK _ _ _) mq) tj.out); rw [show aE kM5.q 2 = _ from kA6] at ue; clear hk tE td)
  | (go_at_call 17; refine ue.out.mono ?_; rintro e11 w11 ⟨v11, D11, rfl, hle, hs⟩; have zt := BO (tw.out.trans hle); obtain ⟨cs, hcs, _, hs2⟩ := d4 hs; obtain ⟨va, vc, rfl⟩ := hs2.own_shape; have hcl : cs.length = 1 := (by have := congrArg List.length hcs; simpa using this); rw [hcl] at hs2 ⊢; have s6 := BO hs2; clear hle hs hs2 hcs hcl ue tj))
 go_ret
 exact ⟨rfl, s6.out.drop.drop.drop.drop.less zt.out⟩
end Go.Proofs.YtgljdkjepdknnaaGreatDoor
namespace Go.Proofs.YtgljdkjepdknnaaGreatDoor
open Go.ChangeShapes Go.WideShapes Go.ChangeAt Go.RowKit Go.Deep
set_option maxRecDepth 100000
set_option linter.unusedSimpArgs false
structure ActE where
 kind : Int
 owner : Int
 x : ClmE
 dur : Int
 hand : Int
 table : Int
 many : Int
instance : Inhabited ActE := ⟨⟨0, 0, default, 0, 0, 0, 0⟩⟩
def ActE.cells (a : ActE) : List Value := [.int .i64 a.kind, .int .i64 a.owner, .int .i64 a.x.kind, .int .i64 a.x.table, .int .i64 a.x.mode, .bool a.x.key.t, .int .i64 a.x.key.n, .string a.x.key.s, .slice a.x.ia a.x.il a.x.ic, .int .i64 a.x.pr.op, .int .i64 a.x.pr.col, .bool a.x.pr.v.t, .int .i64 a.x.pr.v.n, .string a.x.pr.v.s, .bool a.x.pr.w.t, .int .i64 a.x.pr.w.n, .string a.x.pr.w.s, .slice a.x.pr.la a.x.pr.ln a.x.pr.lc, .int .i64 a.dur, .int .i64 a.hand, .int .i64 a.table, .int .i64 a.many]
theorem ActE.len (a : ActE) : a.cells.length = 22 := rfl
abbrev kN : TypeId := 50
theorem loadAct {w : World} {g o : Nat} {a : ActE} (h : w.rangeAt g o a.cells) : (loadVar kN ⟨g, o, none⟩).run Tryz.prog w = .ok (.agg a.cells.toArray) w := run_loadVar_mid w g o _ _ _ h Tryz.underlying50 rfl (by kernel_rfl)
theorem m4 {w : World} {g o : Nat} {a : ActE} (h : w.rangeAt g o a.cells) : w.rangeAt g (o + 2) a.x.cells := fun i u hu => by
 have hi : i < 16 := by have := (List.getElem?_eq_some_iff.1 hu).1; rwa [ClmE.len] at this
 rw [Nat.add_assoc, Nat.add_comm 2 i]
 refine h (i + 2) u ?_
 show (a.x.cells ++ [.int .i64 a.dur, .int .i64 a.hand, .int .i64 a.table, .int .i64 a.many])[i]? = _
 rw [List.getElem?_append_left (by rw [ClmE.len]; exact hi)]
 exact hu
def nT (w : World) (v : Value) (l : List ActE) : Prop := Rd w 22 v l.length (l.flatMap ActE.cells) ∧ ∀ a ∈ l, RdCl w a.x ∧ bS a.x.c
def ActsD (D : PH) (v : Value) (l : List ActE) : Prop := RdP D 22 v l.length (l.flatMap ActE.cells) ∧ ∀ a ∈ l, ClOk D a.x ∧ bS a.x.c
theorem ActsD.mono {D D' : PH} {v : Value} {l : List ActE} (h : ActsD D v l) (le : PH.le D D') : ActsD D' v l := ⟨h.1.mono le, fun a ha => ⟨(h.2 a ha).1.mono le, (h.2 a ha).2⟩⟩
theorem ActsD.of_rd {w : World} {v : Value} {l : List ActE} (h : nT w v l) : ActsD (cD w) v l := ⟨RdP.of_rd h.1 (by omega), fun a ha => ⟨ClOk.of_rd (h.2 a ha).1, (h.2 a ha).2⟩⟩
theorem ActsD.shape {D : PH} {v : Value} {l : List ActE} (h : ActsD D v l) : ∃ ao cap, v = .slice ao l.length cap ∧ l.length ≤ 9223372036854775807 := by
 obtain ⟨ao, cap, hv⟩ := h.1.shape
 exact ⟨ao, cap, hv, h.1.len⟩
theorem actAt {B w : World} {D : PH} {l' : List HP} {ao : Option Addr} {N cap j : Nat} {l : List ActE} {a : ActE} (h : ActsD D (.slice ao N cap) l) (hs : Sat B D w l') (hl : l.length = N) (ha : l[j]? = some a) :
  ∃ g o, ao = some ⟨g, o, none⟩ ∧ w.rangeAt g (o + j * 22) a.cells ∧ w.rangeAt g (o + j * 22 + 2) a.x.cells ∧ ClOk D a.x ∧ bS a.x.c := by
 obtain ⟨g, o, hg, hr⟩ := aD ActE.len (by have := h.1.rd hs; rw [hl] at this; exact this) ha hl
 exact ⟨g, o, hg, hr, m4 hr, h.2 a (List.mem_of_getElem? ha)⟩
section
variable {H : Type} {enc : TypeId × Value → H} {P : Program} {w : World} {base : Nat} {spare : Nat → Bool} {held : Bool}
theorem sN {t : TypeId} {f0 f1 f2 f3 f4 f5 f6 : Field} {fuel : Nat} {cs : List Value} {x : DataW H × List MemPlace} (ht : P.underlying t = some (.struct #[f0, f1, f2, f3, f4, f5, f6])) (h : DataW.trod enc P w base spare held fuel t cs = some x) :
  ∃ y0 y1 y2 y3 y4 y5 y6 n, fuel = n + 1 ∧ cs.length = P.cellsOf t ∧ DataW.trod enc P w base spare held n f0.type ((cs.drop f0.offset).take (P.cellsOf f0.type)) = some y0 ∧ DataW.trod enc P w base spare held n f1.type ((cs.drop f1.offset).take (P.cellsOf f1.type)) = some y1 ∧ DataW.trod enc P w base spare held n f2.type ((cs.drop f2.offset).take (P.cellsOf f2.type)) = some y2 ∧ DataW.trod enc P w base spare held n f3.type ((cs.drop f3.offset).take (P.cellsOf f3.type)) = some y3 ∧ DataW.trod enc P w base spare held n f4.type ((cs.drop f4.offset).take (P.cellsOf f4.type)) = some y4 ∧ DataW.trod enc P w base spare held n f5.type ((cs.drop f5.offset).take (P.cellsOf f5.type)) = some y5 ∧ DataW.trod enc P w base spare held n f6.type ((cs.drop f6.offset).take (P.cellsOf f6.type)) = some y6 := by
 obtain ⟨xs, n, hn, rfl, hl, hlen, hf⟩ := DataW.trod_struct ht h
 match xs, hlen with
 | [y0, y1, y2, y3, y4, y5, y6], _ => exact ⟨y0, y1, y2, y3, y4, y5, y6, n, hn, hl, by simpa using hf 0 f0 rfl, by simpa using hf 1 f1 rfl, by simpa using hf 2 f2 rfl, by simpa using hf 3 f3 rfl, by simpa using hf 4 f4 rfl, by simpa using hf 5 f5 rfl, by simpa using hf 6 f6 rfl⟩
end
section
variable {H : Type} {enc : TypeId × Value → H} {w : World} {base : Nat} {spare : Nat → Bool} {held : Bool}
theorem lD : Tryz.prog.cellsOf 50 = 22 := by kernel_rfl
theorem lq {fuel : Nat} {cs : List Value} {x : DataW H × List MemPlace} (h : DataW.trod enc Tryz.prog w base spare held fuel 50 cs = some x) : ∃ a : ActE, cs = a.cells ∧ RdCl w a.x ∧ bS a.x.c := by
 obtain ⟨y0, y1, y2, y3, y4, y5, y6, n, _, hl, t0, t1, t2, t3, t4, t5, t6⟩ := sN Tryz.underlying50 h
 rw [lD] at hl
 simp only [iQ, nm] at t0 t1 t2 t3 t4 t5 t6
 match cs, hl with
 | [c0, c1, c2, c3, c4, c5, c6, c7, c8, c9, c10, c11, c12, c13, c14, c15, c16, c17, c18, c19, c20, c21], _ =>
  simp only [List.drop, List.take] at t0 t1 t2 t3 t4 t5 t6
  obtain ⟨z0, hz0, _, _⟩ := DataW.trod_int Tryz.underlying3 t0
  obtain ⟨z1, hz1, _, _⟩ := DataW.trod_int Tryz.underlying3 t1
  obtain ⟨c, hc, hrd, hf⟩ := mJ t2
  obtain ⟨z2, hz2, _, _⟩ := DataW.trod_int Tryz.underlying3 t3
  obtain ⟨z3, hz3, _, _⟩ := DataW.trod_int Tryz.underlying3 t4
  obtain ⟨z4, hz4, _, _⟩ := DataW.trod_int Tryz.underlying3 t5
  obtain ⟨z5, hz5, _, _⟩ := DataW.trod_int Tryz.underlying3 t6
  simp only [List.cons.injEq, and_true] at hz0 hz1 hz2 hz3 hz4 hz5
  simp only [ClmE.cells, List.cons.injEq, and_true] at hc
  obtain ⟨rfl, rfl, rfl, rfl, rfl, rfl, rfl, rfl, rfl, rfl, rfl, rfl, rfl, rfl, rfl, rfl⟩ := hc
  subst hz0 hz1 hz2 hz3 hz4 hz5
  exact ⟨⟨z0, z1, c, z2, z3, z4, z5⟩, rfl, hrd, hf⟩
theorem nJ {fuel : Nat} {cs : List Value} {x : DataW H × List MemPlace} (h : DataW.trod enc Tryz.prog w base spare held fuel 48 cs = some x) : ∃ (v : Value) (l : List ActE), cs = [v] ∧ nT w v l := by
 obtain ⟨v, l, hc, hrd, hl⟩ := io (f := ActE.cells) (G := fun a : ActE => RdCl w a.x ∧ bS a.x.c) Tryz.underlying48 lD (by omega) ActE.len (fun m hm cs d hd => by exact lq hd) h
 exact ⟨v, l, hc, hrd, hl⟩
theorem lH : Tryz.prog.cellsOf 27 = 1 := by kernel_rfl
theorem dd {w : World} {b : Nat} {a : ActE} {t : TypeId} {fr : Nat × Nat} (h : w.heap[b]? = some (.cells a.cells.toArray t fr)) :
  w.cell? ⟨b, 0, none⟩ = some (.int .i64 a.kind) ∧ w.cell? ⟨b, 1, none⟩ = some (.int .i64 a.owner) ∧ w.cell? ⟨b, 18, none⟩ = some (.int .i64 a.dur) ∧ w.cell? ⟨b, 19, none⟩ = some (.int .i64 a.hand) ∧ w.cell? ⟨b, 20, none⟩ = some (.int .i64 a.table) ∧ w.cell? ⟨b, 21, none⟩ = some (.int .i64 a.many) := by
 refine ⟨?_, ?_, ?_, ?_, ?_, ?_⟩ <;> simp [World.cell?, h, ActE.cells]
theorem ld {w : World} {b : Nat} {a : ActE} {t : TypeId} {fr : Nat × Nat} (h : w.heap[b]? = some (.cells a.cells.toArray t fr)) : w.rangeAt b 2 a.x.cells := by
 have := m4 (ai h)
 simpa using this
end
section
variable {H : Type} {enc : TypeId × Value → H} {w : World} {base : Nat} {spare : Nat → Bool} {held : Bool}
theorem nB : Tryz.prog.bytesOf 4 = 1 := by kernel_rfl
theorem ny {fuel : Nat} {cs : List Value} {x : DataW H × List MemPlace} (hsp : ∀ b, spare b = true) (h : DataW.trod enc Tryz.prog w base spare held fuel 25 cs = some x) :
  ∃ (v : Value) (r : List Bool), cs = [v] ∧ Rd w 1 v r.length (r.flatMap dH) ∧ ((x.1.weights Tryz.prog 25).all (· ≤ reachBytes) = true → r.length ≤ 140737488355328) := by
 obtain ⟨v, l, rfl, hrd, hx⟩ := oV (f := dH) (G := fun (_ : Bool) _ => True) Tryz.underlying25 jW (by omega) blen (fun _ _ _ _ hd => by
  obtain ⟨b, hb, _⟩ := DataW.trod_bool Tryz.underlying4 hd
  exact ⟨b, hb, trivial⟩) hsp h
 refine ⟨v, l, rfl, hrd, fun hz => ?_⟩
 rcases hx with ⟨_, rfl⟩ | ⟨ds, sp, h1, h2, _⟩
 ·exact Nat.zero_le _
 ·rw [h1] at hz
  have := List.all_eq_true.1 hz ((ds.length + sp.length) * Tryz.prog.bytesOf 4) (by simp [DataW.weights, Tryz.underlying25])
  simp only [nB, decide_eq_true_eq] at this
  unfold reachBytes at this
  omega
theorem mP {fuel : Nat} {cs : List Value} {x : DataW H × List MemPlace} (hsp : ∀ b, spare b = true) (h : DataW.trod enc Tryz.prog w base spare held fuel 27 cs = some x) :
  ∃ (v : Value) (r : List Bool), cs = [v] ∧ Rd w 1 v r.length (r.flatMap dH) ∧ ((x.1.weights Tryz.prog 27).all (· ≤ reachBytes) = true → r.length ≤ 140737488355328) := by
 obtain ⟨xs, n, hn, rfl, hl, hlen, hf⟩ := DataW.trod_struct Tryz.underlying27 h
 rw [lH] at hl
 match xs, hlen with
 | [y0], _ =>
  have t0 := hf 0 _ rfl
  match cs, hl with
  | [c0], _ =>
   obtain ⟨v, r, hc, hr, hz⟩ := ny (x := y0) (cs := [c0]) hsp (by
    have h9 : [y0][0]? = some y0 := rfl
    rw [h9] at t0
    exact t0)
   refine ⟨v, r, hc, hr, fun hs => hz ?_⟩
   simp only [DataW.weights, Tryz.underlying27] at hs
   exact go hs 0 _ _ rfl rfl
theorem lP {fuel : Nat} {cs : List Value} {x : DataW H × List MemPlace} (hsp : ∀ b, spare b = true) (h : DataW.trod enc Tryz.prog w base spare held fuel 28 cs = some x) :
  ∃ (v : Value) (ts : List (List Bool)), cs = [v] ∧ TblsRd w v ts ∧ ((x.1.weights Tryz.prog 28).all (· ≤ reachBytes) = true → ∀ c ∈ ts, c.length ≤ 140737488355328) := by
 obtain ⟨v, l, rfl, hrd, hx⟩ := oV (f := fun a : Value × List Bool => [a.1]) (G := fun (a : Value × List Bool) d => Rd w 1 a.1 a.2.length (a.2.flatMap dH) ∧ ((d.weights Tryz.prog 27).all (· ≤ reachBytes) = true → a.2.length ≤ 140737488355328)) Tryz.underlying28 lH (by omega) (fun _ => rfl) (fun _ _ _ _ hd => by
  obtain ⟨v, r, he, hr, hz⟩ := mP hsp hd
  exact ⟨(v, r), he, hr, hz⟩) hsp h
 have hfl : l.flatMap (fun a : Value × List Bool => [a.1]) = l.map Prod.fst := by
  clear hrd hx
  induction l with
  | nil => rfl
  | cons a l ih => rw [List.flatMap_cons, ih]; rfl
 rw [hfl] at hrd
 refine ⟨v, l.map Prod.snd, rfl, ⟨l.map Prod.fst, by simp, by simpa using hrd, fun i u r hu hr => ?_⟩, fun hz c hc => ?_⟩
 ·rw [List.getElem?_map] at hu hr
  cases hl : l[i]? with
  | none => rw [hl] at hu; cases hu
  | some a =>
   rw [hl] at hu hr
   obtain rfl := Option.some.inj hu
   obtain rfl := Option.some.inj hr
   rcases hx with ⟨_, rfl⟩ | ⟨ds, sp, _, _, h2⟩
   ·cases hl
   ·obtain ⟨d, _, hg⟩ := h2 i a hl
    exact hg.1
 ·obtain ⟨a, ha, rfl⟩ := List.mem_map.1 hc
  obtain ⟨i, hi⟩ := List.getElem?_of_mem ha
  rcases hx with ⟨_, rfl⟩ | ⟨ds, sp, h1, _, h2⟩
  ·cases ha
  ·obtain ⟨d, hd, hg⟩ := h2 i a hi
   refine hg.2 (List.all_eq_true.2 fun n hn => List.all_eq_true.1 hz n ?_)
   rw [h1]
   simp only [DataW.weights, Tryz.underlying28, List.mem_cons, List.mem_append]
   exact .inr (.inl (ge hd n hn))
end
end Go.Proofs.YtgljdkjepdknnaaGreatDoor
