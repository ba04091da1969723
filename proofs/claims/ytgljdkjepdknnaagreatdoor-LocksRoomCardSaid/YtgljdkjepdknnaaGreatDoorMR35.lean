/- Joined texts: The document's example (ratlinelaw11.awake) answers true. Acts, tables among a law's arguments, opened. Tables among a law's arguments, opened, with how long their rows are. For what somebody waits. -/
import Derived.Test.YtgljdkjepdknnaaGreatDoorMR32
import Derived.Test.YtgljdkjepdknnaaGreatDoorMR33
import Derived.Test.YtgljdkjepdknnaaGreatDoorMR34
import Derived.Test.YtgljdkjepdknnaaGreatDoorMR23
import Derived.Test.YtgljdkjepdknnaaGreatDoorMR27
import Derived.Test.YtgljdkjepdknnaaGreatDoorMR12
/- The document's example (ratlinelaw11.awake) answers true. -/
namespace Go.Proofs.YtgljdkjepdknnaaGreatDoor
open Go.ChangeShapes Go.WideShapes Go.ChangeAt Go.RowKit
set_option maxRecDepth 100000
set_option linter.unusedSimpArgs false

abbrev kR (o m w : Int) : Rsn := ⟨o, rowC m 1, w⟩
abbrev kM0 : LkM := ⟨⟨[], []⟩, []⟩
abbrev kM1 : LkM := ⟨⟨[⟨1, rowC 3 1, false⟩], []⟩, [kR 1 3 1]⟩
abbrev kM2 : LkM := ⟨⟨[⟨1, rowC 3 1, false⟩], []⟩, [kR 1 3 9]⟩
abbrev kM3 : LkM := ⟨⟨[⟨1, rowC 3 1, false⟩], []⟩, [kR 1 3 8]⟩
abbrev kM4 : LkM := ⟨⟨[⟨1, rowC 3 1, false⟩], [⟨2, rowC 6 1, false⟩]⟩, [kR 1 3 8, kR 2 6 8]⟩
abbrev kM5 : LkM := ⟨⟨[⟨2, rowC 6 1, false⟩], []⟩, [kR 2 6 8]⟩
theorem kA1 : askK kM0 9 true 1 (rowC 3 1) 1 0 = (kM1, true, 0) := by kernel_rfl
theorem kA2 : askK kM1 9 true 1 (rowC 3 1) 3 0 = (kM2, true, 0) := by kernel_rfl
theorem kA3 : overK kM2 1 1 = (kM3, []) := by kernel_rfl
theorem kA4 : askK kM3 9 true 2 (rowC 6 1) 3 0 = (kM4, false, 0) := by kernel_rfl
theorem kA5 : endK kM4 1 = (kM5, [2]) := by kernel_rfl
theorem kA6 : holdsQ kM5.q 2 = [rowC 6 1] := by kernel_rfl
set_option maxHeartbeats 8000000 in
theorem lawake_ok {B w : World} {D : PH} {l : List HP} (hD : EnvD D) (h : Sat B D w l) : Calls Tryz.prog 11 #[] w fun r w' => r = .returned (.bool true) ∧ Sat B D w' l := by
 obtain ⟨D0, hle0, ht0, hs0⟩ := tbl_give h
 have HNEW := Lib.hid (New_L 9 ht0 (by decide) (by decide) hs0)
 have HD := Lib.hid hD
 have HLE0 := Lib.hid hle0
 clear h hle0 ht0 hs0 hD
 go_enter Tryz.func11, Tryz.ntmps11
 go_upto_region 2 with (go_at_call 12; refine HNEW.out.mono ?_; rintro e1 w1 ⟨L, D1, rfl, hle1, hs1⟩; have HLE1 := Lib.hid (HLE0.out.trans hle1); have HS1 := Lib.hid (show Sat B D1 w1 (lksC D1 L [[false]] 9 kM0 :: l) from hs1); clear hle1 hs1 HNEW)
 go_upto_region 3 with (first | (go_at_call 13; refine (row_ok 3 1).mono ?_; rintro er wr2 ⟨rfl, hkr⟩; have HA := Lib.hid (Ask_L (m := kM0) 1 (rowE 3 1) 1 0 (HD.out.mono HLE1.out) (rowE_ok _ _ _) (rowC_sm _ _ _) row_nodes sm_nil (by decide) (by decide) (by decide) (HS1.out.kept hkr)); rw [show mayK [[false]] (rowE 3 1).c = true from row_may (by decide), show askK kM0 9 true 1 (rowE 3 1).c 1 0 = _ from kA1] at HA; clear hkr) | (go_at_call 14; refine HA.out.mono ?_; rintro ea wa2 ⟨D2, rfl, hle, hs⟩; have HLE2 := Lib.hid (HLE1.out.trans hle); have HS2 := Lib.hid hs; clear hle hs HA HS1))
 go_upto_region 4 with (first | (go_at_call 13; refine (row_ok 3 1).mono ?_; rintro er wr3 ⟨rfl, hkr⟩; have HA := Lib.hid (Ask_L (m := kM1) 1 (rowE 3 1) 3 0 (HD.out.mono HLE2.out) (rowE_ok _ _ _) (rowC_sm _ _ _) row_nodes (sm_cons (rowC_sm _ _ _) sm_nil) (by decide) (by decide) (by decide) (HS2.out.kept hkr)); rw [show mayK [[false]] (rowE 3 1).c = true from row_may (by decide), show askK kM1 9 true 1 (rowE 3 1).c 3 0 = _ from kA2] at HA; clear hkr) | (go_at_call 14; refine HA.out.mono ?_; rintro ea wa3 ⟨D3, rfl, hle, hs⟩; have HLE3 := Lib.hid (HLE2.out.trans hle); have HS3 := Lib.hid hs; clear hle hs HA HS2))
 have HE := Lib.hid (EndShort_L (m := kM2) 1 (HD.out.mono HLE3.out) (by decide) (by decide) HS3.out)
 rw [show overK kM2 1 1 = _ from kA3] at HE
 go_upto_region 5 with (go_at_call 16; refine HE.out.mono ?_; rintro e4 w4 ⟨v4, D4, rfl, hle, hs⟩; have HLE4 := Lib.hid (HLE3.out.trans hle); obtain ⟨sa, sc, rfl⟩ := (hs.front 1 rfl).own_shape; have HS4 := Lib.hid hs; clear hle hs HE HS3)
 go_upto_region 6 with (first | (go_at_call 13; refine (row_ok 6 1).mono ?_; rintro er wr5 ⟨rfl, hkr⟩; have HA := Lib.hid (Ask_L (m := kM3) 2 (rowE 6 1) 3 0 (HD.out.mono HLE4.out) (rowE_ok _ _ _) (rowC_sm _ _ _) row_nodes (sm_cons (rowC_sm _ _ _) sm_nil) (by decide) (by decide) (by decide) (HS4.out.kept hkr)); rw [show mayK [[false]] (rowE 6 1).c = true from row_may (by decide), show askK kM3 9 true 2 (rowE 6 1).c 3 0 = _ from kA4] at HA; clear hkr) | (go_at_call 14; refine HA.out.mono ?_; rintro ea wa5 ⟨D5, rfl, hle, hs⟩; have HLE5 := Lib.hid (HLE4.out.trans hle); have HS5 := Lib.hid hs; clear hle hs HA HS4))
 have HE := Lib.hid (End_L (m := kM4) 1 (HD.out.mono HLE5.out) (by decide) HS5.out)
 rw [show endK kM4 1 = _ from kA5] at HE
 go_upto_region 7 with (go_at_call 29; refine HE.out.mono ?_; rintro e6 w6 ⟨v6, D6, rfl, hle, hs⟩; have HLE6 := Lib.hid (HLE5.out.trans hle); have HS6 := Lib.hid hs; clear hle hs HE HS5)
 have HN1 := Lib.hid (newInt HS6.out 2)
 have HI1 := Lib.hid (Ints_k (r := true) (HN1.out.1.own 2 rfl).rd HN1.out.2 (by decide))
 go_wp2_with (first
  | (go_at_call 30; refine HI1.out.mono ?_; rintro e9 w9 ⟨rfl, hk⟩; have HS7 := Lib.hid (HN1.out.1.kept hk).drop; have HLN := Lib.hid (Len_L (m := kM5) (by decide) HS7.out); clear hk HI1 HN1 HS6)
  | (go_at_call 27; refine HLN.out.mono ?_; rintro e10 w10 ⟨rfl, hk⟩; have HS8 := Lib.hid (HS7.out.kept hk); have HHO := Lib.hid (Holds_L (m := kM5) 2 (by decide) (sm_cons (rowC_sm _ _ _) sm_nil) HS8.out); rw [show holdsQ kM5.q 2 = _ from kA6] at HHO; clear hk HLN HS7)
  | (go_at_call 17; refine HHO.out.mono ?_; rintro e11 w11 ⟨v11, D11, rfl, hle, hs⟩; have HLE11 := Lib.hid (HLE6.out.trans hle); obtain ⟨cs, hcs, _, hs2⟩ := clmsOpen hs; obtain ⟨va, vc, rfl⟩ := hs2.own_shape; have hcl : cs.length = 1 := (by have := congrArg List.length hcs; simpa using this); rw [hcl] at hs2 ⊢; have HS11 := Lib.hid hs2; clear hle hs hs2 hcs hcl HHO HS8))
 go_ret
 exact ⟨rfl, HS11.out.drop.drop.drop.drop.less HLE11.out⟩
end Go.Proofs.YtgljdkjepdknnaaGreatDoor

/- Acts, tables among a law's arguments, opened. -/
namespace Go.Proofs.YtgljdkjepdknnaaGreatDoor
open Go.ChangeShapes Go.WideShapes Go.ChangeAt Go.RowKit Go.Deep
set_option maxRecDepth 100000
set_option linter.unusedSimpArgs false

/-- something that is done to locks -/
structure ActE where
 kind : Int
 owner : Int
 x : ClmE
 dur : Int
 hand : Int
 table : Int
 many : Int
instance : Inhabited ActE := ⟨⟨0, 0, default, 0, 0, 0, 0⟩⟩
def ActE.cells (a : ActE) : List Value := [.int .i64 a.kind, .int .i64 a.owner, .int .i64 a.x.kind, .int .i64 a.x.table, .int .i64 a.x.mode, .bool a.x.key.t, .int .i64 a.x.key.n, .string a.x.key.s, .slice a.x.ia a.x.il a.x.ic, .int .i64 a.x.pr.op, .int .i64 a.x.pr.col, .bool a.x.pr.v.t, .int .i64 a.x.pr.v.n, .string a.x.pr.v.s, .bool a.x.pr.w.t, .int .i64 a.x.pr.w.n, .string a.x.pr.w.s, .slice a.x.pr.la a.x.pr.ln a.x.pr.lc, .int .i64 a.dur, .int .i64 a.hand, .int .i64 a.table, .int .i64 a.many]
theorem ActE.len (a : ActE) : a.cells.length = 22 := rfl
abbrev tAct : TypeId := 50
theorem loadAct {w : World} {g o : Nat} {a : ActE} (h : w.rangeAt g o a.cells) : (loadVar tAct ⟨g, o, none⟩).run Tryz.prog w = .ok (.agg a.cells.toArray) w := run_loadVar_mid w g o _ _ _ h Tryz.underlying50 rfl (by kernel_rfl)
theorem rangeAct {w : World} {g o : Nat} {a : ActE} (h : w.rangeAt g o a.cells) : w.rangeAt g (o + 2) a.x.cells := fun i u hu => by
 have hi : i < 16 := by have := (List.getElem?_eq_some_iff.1 hu).1; rwa [ClmE.len] at this
 rw [Nat.add_assoc, Nat.add_comm 2 i]
 refine h (i + 2) u ?_
 show (a.x.cells ++ [.int .i64 a.dur, .int .i64 a.hand, .int .i64 a.table, .int .i64 a.many])[i]? = _
 rw [List.getElem?_append_left (by rw [ClmE.len]; exact hi)]
 exact hu
/-- a row of acts that reads -/
def ActsRd (w : World) (v : Value) (l : List ActE) : Prop := Rd w 22 v l.length (l.flatMap ActE.cells) ∧ ∀ a ∈ l, RdCl w a.x ∧ ClmFit a.x.c
/-- .. that lies in the pool -/
def ActsD (D : PH) (v : Value) (l : List ActE) : Prop := RdP D 22 v l.length (l.flatMap ActE.cells) ∧ ∀ a ∈ l, ClOk D a.x ∧ ClmFit a.x.c
theorem ActsD.mono {D D' : PH} {v : Value} {l : List ActE} (h : ActsD D v l) (le : PH.le D D') : ActsD D' v l := ⟨h.1.mono le, fun a ha => ⟨(h.2 a ha).1.mono le, (h.2 a ha).2⟩⟩
theorem ActsD.of_rd {w : World} {v : Value} {l : List ActE} (h : ActsRd w v l) : ActsD (heapOf w) v l := ⟨RdP.of_rd h.1 (by omega), fun a ha => ⟨ClOk.of_rd (h.2 a ha).1, (h.2 a ha).2⟩⟩
theorem ActsD.shape {D : PH} {v : Value} {l : List ActE} (h : ActsD D v l) : ∃ ao cap, v = .slice ao l.length cap ∧ l.length ≤ 9223372036854775807 := by
 obtain ⟨ao, cap, hv⟩ := h.1.shape
 exact ⟨ao, cap, hv, h.1.len⟩
theorem actAt {B w : World} {D : PH} {l' : List HP} {ao : Option Addr} {N cap j : Nat} {l : List ActE} {a : ActE} (h : ActsD D (.slice ao N cap) l) (hs : Sat B D w l') (hl : l.length = N) (ha : l[j]? = some a) :
  ∃ g o, ao = some ⟨g, o, none⟩ ∧ w.rangeAt g (o + j * 22) a.cells ∧ w.rangeAt g (o + j * 22 + 2) a.x.cells ∧ ClOk D a.x ∧ ClmFit a.x.c := by
 obtain ⟨g, o, hg, hr⟩ := elem_range ActE.len (by have := h.1.rd hs; rw [hl] at this; exact this) ha hl
 exact ⟨g, o, hg, hr, rangeAct hr, h.2 a (List.mem_of_getElem? ha)⟩
section
variable {H : Type} {enc : TypeId × Value → H} {P : Program} {w : World} {base : Nat} {spare : Nat → Bool} {held : Bool}
theorem struct7F {t : TypeId} {f0 f1 f2 f3 f4 f5 f6 : Field} {fuel : Nat} {cs : List Value} {x : DataW H × List MemPlace} (ht : P.underlying t = some (.struct #[f0, f1, f2, f3, f4, f5, f6])) (h : DataW.trod enc P w base spare held fuel t cs = some x) :
  ∃ y0 y1 y2 y3 y4 y5 y6 n, fuel = n + 1 ∧ cs.length = P.cellsOf t ∧ DataW.trod enc P w base spare held n f0.type ((cs.drop f0.offset).take (P.cellsOf f0.type)) = some y0 ∧ DataW.trod enc P w base spare held n f1.type ((cs.drop f1.offset).take (P.cellsOf f1.type)) = some y1 ∧ DataW.trod enc P w base spare held n f2.type ((cs.drop f2.offset).take (P.cellsOf f2.type)) = some y2 ∧ DataW.trod enc P w base spare held n f3.type ((cs.drop f3.offset).take (P.cellsOf f3.type)) = some y3 ∧ DataW.trod enc P w base spare held n f4.type ((cs.drop f4.offset).take (P.cellsOf f4.type)) = some y4 ∧ DataW.trod enc P w base spare held n f5.type ((cs.drop f5.offset).take (P.cellsOf f5.type)) = some y5 ∧ DataW.trod enc P w base spare held n f6.type ((cs.drop f6.offset).take (P.cellsOf f6.type)) = some y6 := by
 obtain ⟨xs, n, hn, rfl, hl, hlen, hf⟩ := DataW.trod_struct ht h
 match xs, hlen with
 | [y0, y1, y2, y3, y4, y5, y6], _ => exact ⟨y0, y1, y2, y3, y4, y5, y6, n, hn, hl, by simpa using hf 0 f0 rfl, by simpa using hf 1 f1 rfl, by simpa using hf 2 f2 rfl, by simpa using hf 3 f3 rfl, by simpa using hf 4 f4 rfl, by simpa using hf 5 f5 rfl, by simpa using hf 6 f6 rfl⟩
end
section
variable {H : Type} {enc : TypeId × Value → H} {w : World} {base : Nat} {spare : Nat → Bool} {held : Bool}
theorem cellsActO : Tryz.prog.cellsOf 50 = 22 := by kernel_rfl
theorem openF_act {fuel : Nat} {cs : List Value} {x : DataW H × List MemPlace} (h : DataW.trod enc Tryz.prog w base spare held fuel 50 cs = some x) : ∃ a : ActE, cs = a.cells ∧ RdCl w a.x ∧ ClmFit a.x.c := by
 obtain ⟨y0, y1, y2, y3, y4, y5, y6, n, _, hl, t0, t1, t2, t3, t4, t5, t6⟩ := struct7F Tryz.underlying50 h
 rw [cellsActO] at hl
 simp only [cellsIntO, cellsClO] at t0 t1 t2 t3 t4 t5 t6
 match cs, hl with
 | [c0, c1, c2, c3, c4, c5, c6, c7, c8, c9, c10, c11, c12, c13, c14, c15, c16, c17, c18, c19, c20, c21], _ =>
  simp only [List.drop, List.take] at t0 t1 t2 t3 t4 t5 t6
  obtain ⟨z0, hz0, _, _⟩ := DataW.trod_int Tryz.underlying3 t0
  obtain ⟨z1, hz1, _, _⟩ := DataW.trod_int Tryz.underlying3 t1
  obtain ⟨c, hc, hrd, hf⟩ := openF_claim t2
  obtain ⟨z2, hz2, _, _⟩ := DataW.trod_int Tryz.underlying3 t3
  obtain ⟨z3, hz3, _, _⟩ := DataW.trod_int Tryz.underlying3 t4
  obtain ⟨z4, hz4, _, _⟩ := DataW.trod_int Tryz.underlying3 t5
  obtain ⟨z5, hz5, _, _⟩ := DataW.trod_int Tryz.underlying3 t6
  simp only [List.cons.injEq, and_true] at hz0 hz1 hz2 hz3 hz4 hz5
  simp only [ClmE.cells, List.cons.injEq, and_true] at hc
  obtain ⟨rfl, rfl, rfl, rfl, rfl, rfl, rfl, rfl, rfl, rfl, rfl, rfl, rfl, rfl, rfl, rfl⟩ := hc
  subst hz0 hz1 hz2 hz3 hz4 hz5
  exact ⟨⟨z0, z1, c, z2, z3, z4, z5⟩, rfl, hrd, hf⟩
theorem openF_acts {fuel : Nat} {cs : List Value} {x : DataW H × List MemPlace} (h : DataW.trod enc Tryz.prog w base spare held fuel 48 cs = some x) : ∃ (v : Value) (l : List ActE), cs = [v] ∧ ActsRd w v l := by
 obtain ⟨v, l, hc, hrd, hl⟩ := open_RdF (f := ActE.cells) (G := fun a : ActE => RdCl w a.x ∧ ClmFit a.x.c) Tryz.underlying48 cellsActO (by omega) ActE.len (fun m hm cs d hd => by exact openF_act hd) h
 exact ⟨v, l, hc, hrd, hl⟩
theorem cellsTabO : Tryz.prog.cellsOf 27 = 1 := by kernel_rfl
theorem boxAct {w : World} {b : Nat} {a : ActE} {t : TypeId} {fr : Nat × Nat} (h : w.heap[b]? = some (.cells a.cells.toArray t fr)) :
  w.cell? ⟨b, 0, none⟩ = some (.int .i64 a.kind) ∧ w.cell? ⟨b, 1, none⟩ = some (.int .i64 a.owner) ∧ w.cell? ⟨b, 18, none⟩ = some (.int .i64 a.dur) ∧ w.cell? ⟨b, 19, none⟩ = some (.int .i64 a.hand) ∧ w.cell? ⟨b, 20, none⟩ = some (.int .i64 a.table) ∧ w.cell? ⟨b, 21, none⟩ = some (.int .i64 a.many) := by
 refine ⟨?_, ?_, ?_, ?_, ?_, ?_⟩ <;> simp [World.cell?, h, ActE.cells]
theorem rangeActB {w : World} {b : Nat} {a : ActE} {t : TypeId} {fr : Nat × Nat} (h : w.heap[b]? = some (.cells a.cells.toArray t fr)) : w.rangeAt b 2 a.x.cells := by
 have := rangeAct (blk_range h)
 simpa using this
end
end Go.Proofs.YtgljdkjepdknnaaGreatDoor

/- Tables among a law's arguments, opened, with how long their rows are. -/
namespace Go.Proofs.YtgljdkjepdknnaaGreatDoor
open Go.ChangeShapes Go.WideShapes Go.ChangeAt Go.RowKit Go.Deep
set_option maxRecDepth 100000
set_option linter.unusedSimpArgs false

section
variable {H : Type} {enc : TypeId × Value → H} {w : World} {base : Nat} {spare : Nat → Bool} {held : Bool}
theorem bytesBoolO : Tryz.prog.bytesOf 4 = 1 := by kernel_rfl
theorem openZ_bools {fuel : Nat} {cs : List Value} {x : DataW H × List MemPlace} (hsp : ∀ b, spare b = true) (h : DataW.trod enc Tryz.prog w base spare held fuel 25 cs = some x) :
  ∃ (v : Value) (r : List Bool), cs = [v] ∧ Rd w 1 v r.length (r.flatMap bcells) ∧ ((x.1.weights Tryz.prog 25).all (· ≤ reachBytes) = true → r.length ≤ 140737488355328) := by
 obtain ⟨v, l, rfl, hrd, hx⟩ := open_Rd (f := bcells) (G := fun (_ : Bool) _ => True) Tryz.underlying25 cellsBoolO (by omega) blen (fun _ _ _ _ hd => by
  obtain ⟨b, hb, _⟩ := DataW.trod_bool Tryz.underlying4 hd
  exact ⟨b, hb, trivial⟩) hsp h
 refine ⟨v, l, rfl, hrd, fun hz => ?_⟩
 rcases hx with ⟨_, rfl⟩ | ⟨ds, sp, h1, h2, _⟩
 ·exact Nat.zero_le _
 ·rw [h1] at hz
  have := List.all_eq_true.1 hz ((ds.length + sp.length) * Tryz.prog.bytesOf 4) (by simp [DataW.weights, Tryz.underlying25])
  simp only [bytesBoolO, decide_eq_true_eq] at this
  unfold reachBytes at this
  omega
theorem openZ_table {fuel : Nat} {cs : List Value} {x : DataW H × List MemPlace} (hsp : ∀ b, spare b = true) (h : DataW.trod enc Tryz.prog w base spare held fuel 27 cs = some x) :
  ∃ (v : Value) (r : List Bool), cs = [v] ∧ Rd w 1 v r.length (r.flatMap bcells) ∧ ((x.1.weights Tryz.prog 27).all (· ≤ reachBytes) = true → r.length ≤ 140737488355328) := by
 obtain ⟨xs, n, hn, rfl, hl, hlen, hf⟩ := DataW.trod_struct Tryz.underlying27 h
 rw [cellsTabO] at hl
 match xs, hlen with
 | [y0], _ =>
  have t0 := hf 0 _ rfl
  match cs, hl with
  | [c0], _ =>
   obtain ⟨v, r, hc, hr, hz⟩ := openZ_bools (x := y0) (cs := [c0]) hsp (by
    have h9 : [y0][0]? = some y0 := rfl
    rw [h9] at t0
    exact t0)
   refine ⟨v, r, hc, hr, fun hs => hz ?_⟩
   simp only [DataW.weights, Tryz.underlying27] at hs
   exact weights_fields hs 0 _ _ rfl rfl
theorem openZ_tables {fuel : Nat} {cs : List Value} {x : DataW H × List MemPlace} (hsp : ∀ b, spare b = true) (h : DataW.trod enc Tryz.prog w base spare held fuel 28 cs = some x) :
  ∃ (v : Value) (ts : List (List Bool)), cs = [v] ∧ TblsRd w v ts ∧ ((x.1.weights Tryz.prog 28).all (· ≤ reachBytes) = true → ∀ c ∈ ts, c.length ≤ 140737488355328) := by
 obtain ⟨v, l, rfl, hrd, hx⟩ := open_Rd (f := fun a : Value × List Bool => [a.1]) (G := fun (a : Value × List Bool) d => Rd w 1 a.1 a.2.length (a.2.flatMap bcells) ∧ ((d.weights Tryz.prog 27).all (· ≤ reachBytes) = true → a.2.length ≤ 140737488355328)) Tryz.underlying28 cellsTabO (by omega) (fun _ => rfl) (fun _ _ _ _ hd => by
  obtain ⟨v, r, he, hr, hz⟩ := openZ_table hsp hd
  exact ⟨(v, r), he, hr, hz⟩) hsp h
 have hfl : l.flatMap (fun a : Value × List Bool => [a.1]) = l.map Prod.fst := by
  clear hrd hx
  induction l with
  | nil => rfl
  | cons a l ih => rw [List.flatMap_cons, ih]; rfl
 rw [hfl] at hrd
 refine ⟨v, l.map Prod.snd, rfl, ⟨l.map Prod.fst, by simp, by simpa using hrd, fun i u r hu hr => ?_⟩, fun hz c hc => ?_⟩
 ·rw [List.getElem?_map] at hu hr
  cases hl : l[i]? with
  | none => rw [hl] at hu; cases hu
  | some a =>
   rw [hl] at hu hr
   obtain rfl := Option.some.inj hu
   obtain rfl := Option.some.inj hr
   rcases hx with ⟨_, rfl⟩ | ⟨ds, sp, _, _, h2⟩
   ·cases hl
   ·obtain ⟨d, _, hg⟩ := h2 i a hl
    exact hg.1
 ·obtain ⟨a, ha, rfl⟩ := List.mem_map.1 hc
  obtain ⟨i, hi⟩ := List.getElem?_of_mem ha
  rcases hx with ⟨_, rfl⟩ | ⟨ds, sp, h1, _, h2⟩
  ·cases ha
  ·obtain ⟨d, hd, hg⟩ := h2 i a hi
   refine hg.2 (List.all_eq_true.2 fun n hn => List.all_eq_true.1 hz n ?_)
   rw [h1]
   simp only [DataW.weights, Tryz.underlying28, List.mem_cons, List.mem_append]
   exact .inr (.inl (weightsAll_mem hd n hn))
end
end Go.Proofs.YtgljdkjepdknnaaGreatDoor

/- For what somebody waits. -/
namespace Go.Proofs.YtgljdkjepdknnaaGreatDoor
open Go.ChangeShapes Go.WideShapes Go.ChangeAt Go.RowKit
set_option maxRecDepth 100000
set_option linter.unusedSimpArgs false

/-- what is waited for, in what turns no more -/
def WaitsL (B : World) (D : PH) (l : List HP) (L : Nat) (ts : List (List Bool)) (room : Int) (m : LkM) (o : Int) (e : Ending) (w' : World) : Prop := ∃ (z : ClmE) (D' : PH), e = .returned (.tuple #[.agg z.cells.toArray, .bool (waitsQ m.q o).2]) ∧ z.c = (waitsQ m.q o).1 ∧ PH.le D D' ∧ ClOk D' z ∧ Sat B D' w' (lksC D L ts room m :: l)
section
variable {B w : World} {D : PH} {l : List HP} {L : Nat} {ts : List (List Bool)} {room : Int} {m : LkM}
set_option maxHeartbeats 4000000 in
theorem Waits_L (o : Int) (hsm : ClmSm 1000000 (waitsQ m.q o).1) (h : Sat B D w (lksC D L ts room m :: l)) :
  Calls Tryz.prog 25 #[.pointer (some ⟨L, 0, none⟩), .int .i64 o] w (WaitsL B D l L ts room m o) := by
 obtain ⟨q, tv, rv, rs, ht, hr, h1⟩ := lksOpen h
 have HT := Lib.hid ht
 have HR := Lib.hid hr
 have HSM := Lib.hid hsm
 obtain ⟨W1, hW1, hs1⟩ := Sat.hide (h1.alloc cZ tCl)
 have HW1 := Lib.hid hW1
 obtain ⟨c0, c1, c2, c3, _⟩ := cells4 (hs1.blk 1 rfl)
 have HW := Lib.hid (Waits_C o (hs1.front 2 rfl))
 clear h ht hr h1 hW1 hs1 hsm
 go_enter Tryz.func25, Tryz.ntmps25
 go_upto_region 1 with fail
 rw [← HW1.out]
 clear HW1
 generalize w.heap.size = br at HW ⊢
 go_upto_region 4 with (first
  | (go_at_call 42; refine HW.out.mono ?_; rintro e2 w2 ⟨z, rfl, hzc, hzo, hs2⟩; have HZC := Lib.hid hzc; have HZO := Lib.hid hzo; have HS2 := Lib.hid (hs2.alloc z.cells.toArray tCl); clear hzc hzo hs2 HW c0 c1 c2 c3)
  | (refine wpList_store_new rfl _ _ _ rfl z.cells _ _ rfl rfl (by kernel_rfl) rfl (ClmE.one z) ?_))
 obtain ⟨W3, hW3, hs3⟩ := Sat.hide HS2.out
 rw [← hW3]
 clear hW3 HS2
 generalize w2.heap.size = bz at hs3 ⊢
 have HL := Lib.hid (loadCl (blk_range (hs3.blk 0 rfl)))
 have HCL := Lib.hid (clone_C HZO.out (by rw [HZC.out]; exact HSM.out) hs3)
 clear hs3
 go_wp2_with (first
  | (refine wpList_ld rfl _ _ rfl _ _ rfl _ HL.out ?_)
  | (go_at_call 45; refine HCL.out.mono ?_; rintro e4 w4 ⟨y, D4, rfl, hyc, hle, hyo, hs4⟩; have HYC := Lib.hid hyc; have HLE := Lib.hid hle; have HYO := Lib.hid hyo; have HS4 := Lib.hid (hs4.front 2 rfl); clear hyc hle hyo hs4 HCL HL)
  | (refine wpList_store_whole rfl _ _ _ rfl tCl br rfl y.cells rfl cZ HS4.out (by kernel_rfl) rfl (ClmE.one y) ?_; intro w5 hs5; have HS5 := Lib.hid hs5; clear hs5 HS4))
 refine bodyPost_ret (results_c2 rfl _ _ rfl (loadCl (blk_range (HS5.out.blk 0 rfl)))) rfl ?_
 refine ⟨y, D4, rfl, by rw [HYC.out, HZC.out], HLE.out, HYO.out, ?_⟩
 have h6 := (HS5.out.drop.front 0 rfl).drop
 exact lksShut HT.out HR.out (h6.front 1 rfl)
end
end Go.Proofs.YtgljdkjepdknnaaGreatDoor
