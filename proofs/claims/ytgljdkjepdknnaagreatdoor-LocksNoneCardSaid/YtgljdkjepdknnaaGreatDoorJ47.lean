/- Joined texts: Acts, tables among a law's arguments, opened. Locks that are none: their answers. -/
import Derived.Test.YtgljdkjepdknnaaGreatDoorJ26
import Derived.Test.YtgljdkjepdknnaaGreatDoorJ33
import Derived.Test.YtgljdkjepdknnaaGreatDoorJ12
import Derived.Test.YtgljdkjepdknnaaGreatDoorJ45
import Derived.Test.YtgljdkjepdknnaaGreatDoorJ22
/- Acts, tables among a law's arguments, opened. -/
namespace Go.Proofs.YtgljdkjepdknnaaGreatDoor
open Go.ChangeShapes Go.WideShapes Go.ChangeAt Go.RowKit Go.Deep
set_option maxRecDepth 100000
set_option linter.unusedSimpArgs false

/-- something that is done to locks -/
structure ActE where
  kind : Int
  owner : Int
  x : ClmE
  dur : Int
  hand : Int
  table : Int
  many : Int
instance : Inhabited ActE := ⟨⟨0, 0, default, 0, 0, 0, 0⟩⟩
def ActE.cells (a : ActE) : List Value := [.int .i64 a.kind, .int .i64 a.owner, .int .i64 a.x.kind, .int .i64 a.x.table, .int .i64 a.x.mode, .bool a.x.key.t, .int .i64 a.x.key.n, .string a.x.key.s, .slice a.x.ia a.x.il a.x.ic, .int .i64 a.x.pr.op, .int .i64 a.x.pr.col, .bool a.x.pr.v.t, .int .i64 a.x.pr.v.n, .string a.x.pr.v.s, .bool a.x.pr.w.t, .int .i64 a.x.pr.w.n, .string a.x.pr.w.s, .slice a.x.pr.la a.x.pr.ln a.x.pr.lc, .int .i64 a.dur, .int .i64 a.hand, .int .i64 a.table, .int .i64 a.many]
theorem ActE.len (a : ActE) : a.cells.length = 22 := rfl
abbrev tAct : TypeId := 50
theorem loadAct {w : World} {g o : Nat} {a : ActE} (h : w.rangeAt g o a.cells) : (loadVar tAct ⟨g, o, none⟩).run Tryz.prog w = .ok (.agg a.cells.toArray) w := run_loadVar_mid w g o _ _ _ h Tryz.underlying50 rfl (by kernel_rfl)
theorem rangeAct {w : World} {g o : Nat} {a : ActE} (h : w.rangeAt g o a.cells) : w.rangeAt g (o + 2) a.x.cells := fun i u hu => by
  have hi : i < 16 := by have := (List.getElem?_eq_some_iff.1 hu).1; rwa [ClmE.len] at this
  rw [Nat.add_assoc, Nat.add_comm 2 i]
  refine h (i + 2) u ?_
  show (a.x.cells ++ [.int .i64 a.dur, .int .i64 a.hand, .int .i64 a.table, .int .i64 a.many])[i]? = _
  rw [List.getElem?_append_left (by rw [ClmE.len]; exact hi)]
  exact hu
/-- a row of acts that reads -/
def ActsRd (w : World) (v : Value) (l : List ActE) : Prop := Rd w 22 v l.length (l.flatMap ActE.cells) ∧ ∀ a ∈ l, RdCl w a.x ∧ ClmFit a.x.c
/-- .. that lies in the pool -/
def ActsD (D : PH) (v : Value) (l : List ActE) : Prop := RdP D 22 v l.length (l.flatMap ActE.cells) ∧ ∀ a ∈ l, ClOk D a.x ∧ ClmFit a.x.c
theorem ActsD.mono {D D' : PH} {v : Value} {l : List ActE} (h : ActsD D v l) (le : PH.le D D') : ActsD D' v l := ⟨h.1.mono le, fun a ha => ⟨(h.2 a ha).1.mono le, (h.2 a ha).2⟩⟩
theorem ActsD.of_rd {w : World} {v : Value} {l : List ActE} (h : ActsRd w v l) : ActsD (heapOf w) v l := ⟨RdP.of_rd h.1 (by omega), fun a ha => ⟨ClOk.of_rd (h.2 a ha).1, (h.2 a ha).2⟩⟩
theorem ActsD.shape {D : PH} {v : Value} {l : List ActE} (h : ActsD D v l) : ∃ ao cap, v = .slice ao l.length cap ∧ l.length ≤ 9223372036854775807 := by
  obtain ⟨ao, cap, hv⟩ := h.1.shape
  exact ⟨ao, cap, hv, h.1.len⟩
theorem actAt {B w : World} {D : PH} {l' : List HP} {ao : Option Addr} {N cap j : Nat} {l : List ActE} {a : ActE} (h : ActsD D (.slice ao N cap) l) (hs : Sat B D w l') (hl : l.length = N) (ha : l[j]? = some a) :
    ∃ g o, ao = some ⟨g, o, none⟩ ∧ w.rangeAt g (o + j * 22) a.cells ∧ w.rangeAt g (o + j * 22 + 2) a.x.cells ∧ ClOk D a.x ∧ ClmFit a.x.c := by
  obtain ⟨g, o, hg, hr⟩ := elem_range ActE.len (by have := h.1.rd hs; rw [hl] at this; exact this) ha hl
  exact ⟨g, o, hg, hr, rangeAct hr, h.2 a (List.mem_of_getElem? ha)⟩
section
variable {H : Type} {enc : TypeId × Value → H} {P : Program} {w : World} {base : Nat} {spare : Nat → Bool} {held : Bool}
theorem struct7F {t : TypeId} {f0 f1 f2 f3 f4 f5 f6 : Field} {fuel : Nat} {cs : List Value} {x : DataW H × List MemPlace} (ht : P.underlying t = some (.struct #[f0, f1, f2, f3, f4, f5, f6])) (h : DataW.trod enc P w base spare held fuel t cs = some x) :
    ∃ y0 y1 y2 y3 y4 y5 y6 n, fuel = n + 1 ∧ cs.length = P.cellsOf t ∧ DataW.trod enc P w base spare held n f0.type ((cs.drop f0.offset).take (P.cellsOf f0.type)) = some y0 ∧ DataW.trod enc P w base spare held n f1.type ((cs.drop f1.offset).take (P.cellsOf f1.type)) = some y1 ∧ DataW.trod enc P w base spare held n f2.type ((cs.drop f2.offset).take (P.cellsOf f2.type)) = some y2 ∧ DataW.trod enc P w base spare held n f3.type ((cs.drop f3.offset).take (P.cellsOf f3.type)) = some y3 ∧ DataW.trod enc P w base spare held n f4.type ((cs.drop f4.offset).take (P.cellsOf f4.type)) = some y4 ∧ DataW.trod enc P w base spare held n f5.type ((cs.drop f5.offset).take (P.cellsOf f5.type)) = some y5 ∧ DataW.trod enc P w base spare held n f6.type ((cs.drop f6.offset).take (P.cellsOf f6.type)) = some y6 := by
  obtain ⟨xs, n, hn, rfl, hl, hlen, hf⟩ := DataW.trod_struct ht h
  match xs, hlen with
  | [y0, y1, y2, y3, y4, y5, y6], _ => exact ⟨y0, y1, y2, y3, y4, y5, y6, n, hn, hl, by simpa using hf 0 f0 rfl, by simpa using hf 1 f1 rfl, by simpa using hf 2 f2 rfl, by simpa using hf 3 f3 rfl, by simpa using hf 4 f4 rfl, by simpa using hf 5 f5 rfl, by simpa using hf 6 f6 rfl⟩
theorem struct1F {t : TypeId} {f0 : Field} {fuel : Nat} {cs : List Value} {x : DataW H × List MemPlace} (ht : P.underlying t = some (.struct #[f0])) (h : DataW.trod enc P w base spare held fuel t cs = some x) :
    ∃ y0 n, fuel = n + 1 ∧ cs.length = P.cellsOf t ∧ DataW.trod enc P w base spare held n f0.type ((cs.drop f0.offset).take (P.cellsOf f0.type)) = some y0 := by
  obtain ⟨xs, n, hn, rfl, hl, hlen, hf⟩ := DataW.trod_struct ht h
  match xs, hlen with
  | [y0], _ => exact ⟨y0, n, hn, hl, by simpa using hf 0 f0 rfl⟩
end
section
variable {H : Type} {enc : TypeId × Value → H} {w : World} {base : Nat} {spare : Nat → Bool} {held : Bool}
theorem cellsActO : Tryz.prog.cellsOf 50 = 22 := by kernel_rfl
theorem openF_act {fuel : Nat} {cs : List Value} {x : DataW H × List MemPlace} (h : DataW.trod enc Tryz.prog w base spare held fuel 50 cs = some x) : ∃ a : ActE, cs = a.cells ∧ RdCl w a.x ∧ ClmFit a.x.c := by
  obtain ⟨y0, y1, y2, y3, y4, y5, y6, n, _, hl, t0, t1, t2, t3, t4, t5, t6⟩ := struct7F Tryz.underlying50 h
  rw [cellsActO] at hl
  simp only [cellsIntO, cellsClO] at t0 t1 t2 t3 t4 t5 t6
  match cs, hl with
  | [c0, c1, c2, c3, c4, c5, c6, c7, c8, c9, c10, c11, c12, c13, c14, c15, c16, c17, c18, c19, c20, c21], _ =>
    simp only [List.drop, List.take] at t0 t1 t2 t3 t4 t5 t6
    obtain ⟨z0, hz0, _, _⟩ := DataW.trod_int Tryz.underlying3 t0
    obtain ⟨z1, hz1, _, _⟩ := DataW.trod_int Tryz.underlying3 t1
    obtain ⟨c, hc, hrd, hf⟩ := openF_claim t2
    obtain ⟨z2, hz2, _, _⟩ := DataW.trod_int Tryz.underlying3 t3
    obtain ⟨z3, hz3, _, _⟩ := DataW.trod_int Tryz.underlying3 t4
    obtain ⟨z4, hz4, _, _⟩ := DataW.trod_int Tryz.underlying3 t5
    obtain ⟨z5, hz5, _, _⟩ := DataW.trod_int Tryz.underlying3 t6
    simp only [List.cons.injEq, and_true] at hz0 hz1 hz2 hz3 hz4 hz5
    simp only [ClmE.cells, List.cons.injEq, and_true] at hc
    obtain ⟨rfl, rfl, rfl, rfl, rfl, rfl, rfl, rfl, rfl, rfl, rfl, rfl, rfl, rfl, rfl, rfl⟩ := hc
    subst hz0 hz1 hz2 hz3 hz4 hz5
    exact ⟨⟨z0, z1, c, z2, z3, z4, z5⟩, rfl, hrd, hf⟩
theorem openF_acts {fuel : Nat} {cs : List Value} {x : DataW H × List MemPlace} (h : DataW.trod enc Tryz.prog w base spare held fuel 48 cs = some x) : ∃ (v : Value) (l : List ActE), cs = [v] ∧ ActsRd w v l := by
  obtain ⟨v, l, hc, hrd, hl⟩ := open_RdF (f := ActE.cells) (G := fun a : ActE => RdCl w a.x ∧ ClmFit a.x.c) Tryz.underlying48 cellsActO (by omega) ActE.len (fun m hm cs d hd => by exact openF_act hd) h
  exact ⟨v, l, hc, hrd, hl⟩
theorem cellsTabO : Tryz.prog.cellsOf 27 = 1 := by kernel_rfl
theorem cellsBsO : Tryz.prog.cellsOf 25 = 1 := by kernel_rfl
theorem openF_bools {fuel : Nat} {cs : List Value} {x : DataW H × List MemPlace} (h : DataW.trod enc Tryz.prog w base spare held fuel 25 cs = some x) : ∃ (v : Value) (r : List Bool), cs = [v] ∧ Rd w 1 v r.length (r.flatMap bcells) := by
  obtain ⟨v, l, hc, hrd, _⟩ := open_RdF (f := bcells) (G := fun _ : Bool => True) Tryz.underlying25 cellsBoolO (by omega) blen (fun m hm cs d hd => by
    obtain ⟨b, hb, _⟩ := DataW.trod_bool Tryz.underlying4 hd
    exact ⟨b, hb, trivial⟩) h
  exact ⟨v, l, hc, hrd⟩
theorem openF_table {fuel : Nat} {cs : List Value} {x : DataW H × List MemPlace} (h : DataW.trod enc Tryz.prog w base spare held fuel 27 cs = some x) : ∃ (v : Value) (r : List Bool), cs = [v] ∧ Rd w 1 v r.length (r.flatMap bcells) := by
  obtain ⟨y0, n, _, hl, t0⟩ := struct1F Tryz.underlying27 h
  rw [cellsTabO] at hl
  simp only [cellsBsO] at t0
  match cs, hl with
  | [c0], _ =>
    simp only [List.drop, List.take] at t0
    exact openF_bools t0
theorem openF_tables {fuel : Nat} {cs : List Value} {x : DataW H × List MemPlace} (h : DataW.trod enc Tryz.prog w base spare held fuel 28 cs = some x) : ∃ (v : Value) (ts : List (List Bool)), cs = [v] ∧ TblsRd w v ts := by
  obtain ⟨v, l, hc, hrd, hl⟩ := open_RdF (f := fun a : Value × List Bool => [a.1]) (G := fun a : Value × List Bool => Rd w 1 a.1 a.2.length (a.2.flatMap bcells)) Tryz.underlying28 cellsTabO (by omega) (fun _ => rfl) (fun m hm cs d hd => by obtain ⟨v, r, he, hr⟩ := openF_table hd; exact ⟨(v, r), he, hr⟩) h
  have hfl : l.flatMap (fun a : Value × List Bool => [a.1]) = l.map Prod.fst := by
    clear hrd hl
    induction l with
    | nil => rfl
    | cons a l ih => rw [List.flatMap_cons, ih]; rfl
  rw [hfl] at hrd
  refine ⟨v, l.map Prod.snd, hc, ⟨l.map Prod.fst, by simp, by simpa using hrd, fun i u r hu hr => ?_⟩⟩
  rw [List.getElem?_map] at hu hr
  cases hx : l[i]? with
  | none => rw [hx] at hu; cases hu
  | some a =>
    rw [hx] at hu hr
    obtain rfl := Option.some.inj hu
    obtain rfl := Option.some.inj hr
    exact hl a (List.mem_of_getElem? hx)
theorem boxAct {w : World} {b : Nat} {a : ActE} {t : TypeId} {fr : Nat × Nat} (h : w.heap[b]? = some (.cells a.cells.toArray t fr)) :
    w.cell? ⟨b, 0, none⟩ = some (.int .i64 a.kind) ∧ w.cell? ⟨b, 1, none⟩ = some (.int .i64 a.owner) ∧ w.cell? ⟨b, 18, none⟩ = some (.int .i64 a.dur) ∧ w.cell? ⟨b, 19, none⟩ = some (.int .i64 a.hand) ∧ w.cell? ⟨b, 20, none⟩ = some (.int .i64 a.table) ∧ w.cell? ⟨b, 21, none⟩ = some (.int .i64 a.many) := by
  refine ⟨?_, ?_, ?_, ?_, ?_, ?_⟩ <;> simp [World.cell?, h, ActE.cells]
theorem rangeActB {w : World} {b : Nat} {a : ActE} {t : TypeId} {fr : Nat × Nat} (h : w.heap[b]? = some (.cells a.cells.toArray t fr)) : w.rangeAt b 2 a.x.cells := by
  have := rangeAct (blk_range h)
  simpa using this
end
end Go.Proofs.YtgljdkjepdknnaaGreatDoor

/- Locks that are none: their answers. -/
namespace Go.Proofs.YtgljdkjepdknnaaGreatDoor
open Go.ChangeShapes Go.WideShapes Go.ChangeAt Go.RowKit
set_option maxRecDepth 100000
set_option linter.unusedSimpArgs false

theorem EndShort_nilL (o : Int) (w : World) : Calls Tryz.prog 16 #[.pointer none, .int .i64 o] w fun r w' => r = .returned (.slice none 0 0) ∧ Kept (fun _ => False) w w' := by
  go_enter Tryz.func16, Tryz.ntmps16
  go_wp2_with fail
  go_ret
  exact ⟨rfl, Kept.refl _ _⟩
theorem EndHand_nilL (o h : Int) (w : World) : Calls Tryz.prog 15 #[.pointer none, .int .i64 o, .int .i64 h] w fun r w' => r = .returned (.slice none 0 0) ∧ Kept (fun _ => False) w w' := by
  go_enter Tryz.func15, Tryz.ntmps15
  go_wp2_with fail
  go_ret
  exact ⟨rfl, Kept.refl _ _⟩
theorem Leave_nilL (o : Int) (w : World) : Calls Tryz.prog 37 #[.pointer none, .int .i64 o] w fun r w' => r = .returned (.slice none 0 0) ∧ Kept (fun _ => False) w w' := by
  go_enter Tryz.func37, Tryz.ntmps37
  go_wp2_with fail
  go_ret
  exact ⟨rfl, Kept.refl _ _⟩
theorem End_nilL (o : Int) (w : World) : Calls Tryz.prog 29 #[.pointer none, .int .i64 o] w fun r w' => r = .returned (.slice none 0 0) ∧ Kept (fun _ => False) w w' := by
  go_enter Tryz.func29, Tryz.ntmps29
  go_wp2_with fail
  go_ret
  exact ⟨rfl, Kept.refl _ _⟩
theorem Holds_nilL (o : Int) (w : World) : Calls Tryz.prog 17 #[.pointer none, .int .i64 o] w fun r w' => r = .returned (.slice none 0 0) ∧ Kept (fun _ => False) w w' := by
  go_enter Tryz.func17, Tryz.ntmps17
  go_wp2_with fail
  go_ret
  exact ⟨rfl, Kept.refl _ _⟩
theorem Blockers_nilL (o : Int) (w : World) : Calls Tryz.prog 28 #[.pointer none, .int .i64 o] w fun r w' => r = .returned (.slice none 0 0) ∧ Kept (fun _ => False) w w' := by
  go_enter Tryz.func28, Tryz.ntmps28
  go_wp2_with fail
  go_ret
  exact ⟨rfl, Kept.refl _ _⟩
theorem Len_nilL  (w : World) : Calls Tryz.prog 27 #[.pointer none] w fun r w' => r = .returned (.int .i64 0) ∧ Kept (fun _ => False) w w' := by
  go_enter Tryz.func27, Tryz.ntmps27
  go_wp2_with fail
  go_ret
  exact ⟨rfl, Kept.refl _ _⟩
theorem Escalate_nilL (o t k : Int) (w : World) : Calls Tryz.prog 19 #[.pointer none, .int .i64 o, .int .i64 t, .int .i64 k] w fun r w' => r = .returned (.bool false) ∧ Kept (fun _ => False) w w' := by
  go_enter Tryz.func19, Tryz.ntmps19
  go_wp2_with fail
  go_ret
  exact ⟨rfl, (Kept.refl _ _).alloc _⟩
theorem Ask_nilL (o : Int) (c : ClmE) (dur hand : Int) (w : World) : Calls Tryz.prog 14 #[.pointer none, .int .i64 o, .agg c.cells.toArray, .int .i64 dur, .int .i64 hand] w fun r w' => r = .returned (.tuple #[.bool false, .int .i64 111]) ∧ Kept (fun _ => False) w w' := by
  have HK := Lib.hid (show Kept (fun _ => False) w (w.alloc (.cells c.cells.toArray tCl)).drew from ((Kept.refl _ _).alloc _).drew)
  go_enter Tryz.func14, Tryz.ntmps14
  go_upto_region 1 with fail
  refine wp_region_canon [(0, false, 8), (1, false, 8), (2, false, 8), (3, false, 8), (4, false, 8), (5, false, 8), (6, false, 8), (7, false, 8), (8, true, 0), (9, false, 14), (10, false, 14), (11, false, 14), (12, false, 14), (13, false, 14), (14, true, 0), (15, false, 999), (16, false, 999)] (by kernel_rfl) (by kernel_rfl) ?_
  iterate 3 (refine wpCan_read rfl rfl (fun K hK => ?_); go_simp; refine hK _ ?_; clear hK K)
  first | (refine wpCan_no rfl rfl ?_; simp only [Act.put, List.setIfInBounds_toArray, List.set_cons_succ, List.set_cons_zero, List.getElem_toArray, List.getElem_cons_succ, List.getElem_cons_zero]) | (refine wpCan_yes rfl rfl (fun K hK => ?_); go_simp; refine hK _ ?_; clear hK K)
  first | (refine wpCan_no rfl rfl ?_; simp only [Act.put, List.setIfInBounds_toArray, List.set_cons_succ, List.set_cons_zero, List.getElem_toArray, List.getElem_cons_succ, List.getElem_cons_zero]) | (refine wpCan_yes rfl rfl (fun K hK => ?_); go_simp; refine hK _ ?_; clear hK K)
  first | (refine wpCan_no rfl rfl ?_; simp only [Act.put, List.setIfInBounds_toArray, List.set_cons_succ, List.set_cons_zero, List.getElem_toArray, List.getElem_cons_succ, List.getElem_cons_zero]) | (refine wpCan_yes rfl rfl (fun K hK => ?_); go_simp; refine hK _ ?_; clear hK K)
  first | (refine wpCan_no rfl rfl ?_; simp only [Act.put, List.setIfInBounds_toArray, List.set_cons_succ, List.set_cons_zero, List.getElem_toArray, List.getElem_cons_succ, List.getElem_cons_zero]) | (refine wpCan_yes rfl rfl (fun K hK => ?_); go_simp; refine hK _ ?_; clear hK K)
  first | (refine wpCan_no rfl rfl ?_; simp only [Act.put, List.setIfInBounds_toArray, List.set_cons_succ, List.set_cons_zero, List.getElem_toArray, List.getElem_cons_succ, List.getElem_cons_zero]) | (refine wpCan_yes rfl rfl (fun K hK => ?_); go_simp; refine hK _ ?_; clear hK K)
  refine wpCan_eff rfl ?_
  refine wpList_not rfl ?_
  simp only [Act.put, List.setIfInBounds_toArray, List.set_cons_succ, List.set_cons_zero]
  refine wpList_nil ?_
  refine And.intro ?_ ?_
  · go_simp
  first | (refine wpCan_no rfl rfl ?_; simp only [Act.put, List.setIfInBounds_toArray, List.set_cons_succ, List.set_cons_zero, List.getElem_toArray, List.getElem_cons_succ, List.getElem_cons_zero]) | (refine wpCan_yes rfl rfl (fun K hK => ?_); go_simp; refine hK _ ?_; clear hK K)
  iterate 2 (refine wpCan_read rfl rfl (fun K hK => ?_); go_simp; refine hK _ ?_; clear hK K)
  first | (refine wpCan_no rfl rfl ?_; simp only [Act.put, List.setIfInBounds_toArray, List.set_cons_succ, List.set_cons_zero, List.getElem_toArray, List.getElem_cons_succ, List.getElem_cons_zero]) | (refine wpCan_yes rfl rfl (fun K hK => ?_); go_simp; refine hK _ ?_; clear hK K)
  first | (refine wpCan_no rfl rfl ?_; simp only [Act.put, List.setIfInBounds_toArray, List.set_cons_succ, List.set_cons_zero, List.getElem_toArray, List.getElem_cons_succ, List.getElem_cons_zero]) | (refine wpCan_yes rfl rfl (fun K hK => ?_); go_simp; refine hK _ ?_; clear hK K)
  refine wpCan_eff rfl ?_
  refine wpList_not rfl ?_
  simp only [Act.put, List.setIfInBounds_toArray, List.set_cons_succ, List.set_cons_zero]
  refine wpList_nil ?_
  refine And.intro ?_ ?_
  · go_simp
  first | (refine wpCan_no rfl rfl ?_; simp only [Act.put, List.setIfInBounds_toArray, List.set_cons_succ, List.set_cons_zero, List.getElem_toArray, List.getElem_cons_succ, List.getElem_cons_zero]) | (refine wpCan_yes rfl rfl (fun K hK => ?_); go_simp; refine hK _ ?_; clear hK K)
  iterate 1 (refine wpCan_read rfl rfl (fun K hK => ?_); go_simp; refine hK _ ?_; clear hK K)
  refine wpCan_nil ?_
  go_wp2_with fail
  go_ret2
  exact ⟨rfl, HK.out⟩
set_option maxHeartbeats 1000000 in
theorem Waits_nilL {B w : World} {D : PH} {l : List HP} (o : Int) (h : Sat B D w l) : Calls Tryz.prog 25 #[.pointer none, .int .i64 o] w fun r w' => r = .returned (.tuple #[.agg cl0.cells.toArray, .bool false]) ∧ Sat B D w' l := by
  obtain ⟨W0, hW0, hs0⟩ := Sat.hide (h.alloc cZ tCl)
  have HW0 := Lib.hid hW0
  have HS0 := Lib.hid hs0
  clear h hW0 hs0
  go_enter Tryz.func25, Tryz.ntmps25
  go_upto_region 1 with fail
  rw [← HW0.out]
  clear HW0
  generalize w.heap.size = b1 at *
  go_wp2_with (first | (refine wpList_build_cl0w rfl rfl ?_) | (refine wpList_store_whole rfl _ _ _ rfl tCl b1 rfl cl0.cells rfl cZ HS0.out (by kernel_rfl) rfl (ClmE.one _) ?_; intro w6 hs6; have HS6 := Lib.hid hs6; clear hs6 HS0))
  refine bodyPost_ret (results_c2 rfl _ _ rfl (loadCl (blk_range (HS6.out.blk 0 rfl)))) rfl ?_
  exact ⟨rfl, HS6.out.drop⟩
end Go.Proofs.YtgljdkjepdknnaaGreatDoor
