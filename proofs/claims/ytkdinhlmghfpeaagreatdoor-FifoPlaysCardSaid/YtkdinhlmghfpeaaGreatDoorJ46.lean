/- A row of acts among a law's arguments, opened. -/
import Derived.Test.YtkdinhlmghfpeaaGreatDoorJ36
namespace Go.Proofs.YtkdinhlmghfpeaaGreatDoor
open Go.ChangeShapes Go.WideShapes Go.ChangeAt Go.RowKit Go.Deep
set_option maxRecDepth 100000
set_option linter.unusedSimpArgs false

/-- something that is done to a queue -/
structure ActE where
  kind : Int
  owner : Int
  x : ClmE
  which : Int
instance : Inhabited ActE := ⟨⟨0, 0, default, 0⟩⟩
def ActE.cells (a : ActE) : List Value := [.int .i64 a.kind, .int .i64 a.owner, .int .i64 a.x.kind, .int .i64 a.x.table, .int .i64 a.x.mode, .bool a.x.key.t, .int .i64 a.x.key.n, .string a.x.key.s, .slice a.x.ia a.x.il a.x.ic, .int .i64 a.x.pr.op, .int .i64 a.x.pr.col, .bool a.x.pr.v.t, .int .i64 a.x.pr.v.n, .string a.x.pr.v.s, .bool a.x.pr.w.t, .int .i64 a.x.pr.w.n, .string a.x.pr.w.s, .slice a.x.pr.la a.x.pr.ln a.x.pr.lc, .int .i64 a.which]
theorem ActE.len (a : ActE) : a.cells.length = 19 := rfl
abbrev tAct : TypeId := 46
theorem loadAct {w : World} {g o : Nat} {a : ActE} (h : w.rangeAt g o a.cells) : (loadVar tAct ⟨g, o, none⟩).run Tryz.prog w = .ok (.agg a.cells.toArray) w := run_loadVar_mid w g o _ _ _ h Tryz.underlying46 rfl (by kernel_rfl)
theorem rangeAct {w : World} {g o : Nat} {a : ActE} (h : w.rangeAt g o a.cells) : w.rangeAt g (o + 2) a.x.cells := fun i u hu => by
  have hi : i < 16 := by have := (List.getElem?_eq_some_iff.1 hu).1; rwa [ClmE.len] at this
  rw [Nat.add_assoc, Nat.add_comm 2 i]
  refine h (i + 2) u ?_
  show (a.x.cells ++ [.int .i64 a.which])[i]? = _
  rw [List.getElem?_append_left (by rw [ClmE.len]; exact hi)]
  exact hu
/-- a row of acts that reads -/
def ActsRd (w : World) (v : Value) (l : List ActE) : Prop := Rd w 19 v l.length (l.flatMap ActE.cells) ∧ ∀ a ∈ l, RdCl w a.x ∧ ClmFit a.x.c
/-- .. that lies in the pool -/
def ActsD (D : PH) (v : Value) (l : List ActE) : Prop := RdP D 19 v l.length (l.flatMap ActE.cells) ∧ ∀ a ∈ l, ClOk D a.x ∧ ClmFit a.x.c
theorem ActsD.mono {D D' : PH} {v : Value} {l : List ActE} (h : ActsD D v l) (le : PH.le D D') : ActsD D' v l := ⟨h.1.mono le, fun a ha => ⟨(h.2 a ha).1.mono le, (h.2 a ha).2⟩⟩
theorem ActsD.of_rd {w : World} {v : Value} {l : List ActE} (h : ActsRd w v l) : ActsD (heapOf w) v l := ⟨RdP.of_rd h.1 (by omega), fun a ha => ⟨ClOk.of_rd (h.2 a ha).1, (h.2 a ha).2⟩⟩
theorem ActsD.shape {D : PH} {v : Value} {l : List ActE} (h : ActsD D v l) : ∃ ao cap, v = .slice ao l.length cap ∧ l.length ≤ 9223372036854775807 := by
  obtain ⟨ao, cap, hv⟩ := h.1.shape
  exact ⟨ao, cap, hv, h.1.len⟩
theorem actAt {B w : World} {D : PH} {l' : List HP} {ao : Option Addr} {N cap j : Nat} {l : List ActE} {a : ActE} (h : ActsD D (.slice ao N cap) l) (hs : Sat B D w l') (hl : l.length = N) (ha : l[j]? = some a) :
    ∃ g o, ao = some ⟨g, o, none⟩ ∧ w.rangeAt g (o + j * 19) a.cells ∧ w.rangeAt g (o + j * 19 + 2) a.x.cells ∧ ClOk D a.x ∧ ClmFit a.x.c := by
  obtain ⟨g, o, hg, hr⟩ := elem_range ActE.len (by have := h.1.rd hs; rw [hl] at this; exact this) ha hl
  exact ⟨g, o, hg, hr, rangeAct hr, h.2 a (List.mem_of_getElem? ha)⟩
section
variable {H : Type} {enc : TypeId × Value → H} {P : Program} {w : World} {base : Nat} {spare : Nat → Bool} {held : Bool}
theorem struct4F {t : TypeId} {f0 f1 f2 f3 : Field} {fuel : Nat} {cs : List Value} {x : DataW H × List MemPlace} (ht : P.underlying t = some (.struct #[f0, f1, f2, f3])) (h : DataW.trod enc P w base spare held fuel t cs = some x) :
    ∃ y0 y1 y2 y3 n, fuel = n + 1 ∧ cs.length = P.cellsOf t ∧ DataW.trod enc P w base spare held n f0.type ((cs.drop f0.offset).take (P.cellsOf f0.type)) = some y0 ∧ DataW.trod enc P w base spare held n f1.type ((cs.drop f1.offset).take (P.cellsOf f1.type)) = some y1 ∧
      DataW.trod enc P w base spare held n f2.type ((cs.drop f2.offset).take (P.cellsOf f2.type)) = some y2 ∧ DataW.trod enc P w base spare held n f3.type ((cs.drop f3.offset).take (P.cellsOf f3.type)) = some y3 := by
  obtain ⟨xs, n, hn, rfl, hl, hlen, hf⟩ := DataW.trod_struct ht h
  match xs, hlen with
  | [y0, y1, y2, y3], _ => exact ⟨y0, y1, y2, y3, n, hn, hl, by simpa using hf 0 f0 rfl, by simpa using hf 1 f1 rfl, by simpa using hf 2 f2 rfl, by simpa using hf 3 f3 rfl⟩
end
section
variable {H : Type} {enc : TypeId × Value → H} {w : World} {base : Nat} {spare : Nat → Bool} {held : Bool}
theorem cellsActO : Tryz.prog.cellsOf 46 = 19 := by kernel_rfl
theorem openF_act {fuel : Nat} {cs : List Value} {x : DataW H × List MemPlace} (h : DataW.trod enc Tryz.prog w base spare held fuel 46 cs = some x) : ∃ a : ActE, cs = a.cells ∧ RdCl w a.x ∧ ClmFit a.x.c := by
  obtain ⟨y0, y1, y2, y3, n, _, hl, t0, t1, t2, t3⟩ := struct4F Tryz.underlying46 h
  rw [cellsActO] at hl
  simp only [cellsIntO, cellsClO] at t0 t1 t2 t3
  match cs, hl with
  | [c0, c1, c2, c3, c4, c5, c6, c7, c8, c9, c10, c11, c12, c13, c14, c15, c16, c17, c18], _ =>
    simp only [List.drop, List.take] at t0 t1 t2 t3
    obtain ⟨z0, hz0, _, _⟩ := DataW.trod_int Tryz.underlying3 t0
    obtain ⟨z1, hz1, _, _⟩ := DataW.trod_int Tryz.underlying3 t1
    obtain ⟨c, hc, hrd, hf⟩ := openF_claim t2
    obtain ⟨z2, hz2, _, _⟩ := DataW.trod_int Tryz.underlying3 t3
    simp only [List.cons.injEq, and_true] at hz0 hz1 hz2
    simp only [ClmE.cells, List.cons.injEq, and_true] at hc
    obtain ⟨rfl, rfl, rfl, rfl, rfl, rfl, rfl, rfl, rfl, rfl, rfl, rfl, rfl, rfl, rfl, rfl⟩ := hc
    subst hz0 hz1 hz2
    exact ⟨⟨z0, z1, c, z2⟩, rfl, hrd, hf⟩
theorem openF_acts {fuel : Nat} {cs : List Value} {x : DataW H × List MemPlace} (h : DataW.trod enc Tryz.prog w base spare held fuel 35 cs = some x) : ∃ (v : Value) (l : List ActE), cs = [v] ∧ ActsRd w v l := by
  obtain ⟨v, l, hc, hrd, hl⟩ := open_RdF (f := ActE.cells) (G := fun a : ActE => RdCl w a.x ∧ ClmFit a.x.c) Tryz.underlying35 cellsActO (by omega) ActE.len (fun m hm cs d hd => by exact openF_act hd) h
  exact ⟨v, l, hc, hrd, hl⟩
end
end Go.Proofs.YtkdinhlmghfpeaaGreatDoor
