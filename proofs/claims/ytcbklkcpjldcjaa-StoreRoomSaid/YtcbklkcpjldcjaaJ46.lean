/- Arguments of the store's laws as they read: tables, acts; their texts fit. -/
import Derived.Test.YtcbklkcpjldcjaaJ34
import Derived.Test.YtcbklkcpjldcjaaJ43
namespace Go.Proofs.Ytcbklkcpjldcjaa
open Go.ChangeShapes Go.WideShapes Go.ChangeAt Go.RowKit Go.Deep
set_option maxRecDepth 100000
set_option linter.unusedSimpArgs false

section
variable {H : Type} {enc : TypeId × Value → H} {w : World} {base : Nat} {spare : Nat → Bool} {held : Bool}
theorem trod_struct1 {P : Program} {t : TypeId} {f0 : Field} {fuel : Nat} {cs : List Value} {x : DataW H × List MemPlace} (ht : P.underlying t = some (.struct #[f0])) (h : DataW.trod enc P w base spare held fuel t cs = some x) :
    ∃ y0 n, cs.length = P.cellsOf t ∧ DataW.trod enc P w base spare held n f0.type ((cs.drop f0.offset).take (P.cellsOf f0.type)) = some y0 := by
  obtain ⟨xs, n, _, rfl, hl, hlen, hf⟩ := DataW.trod_struct ht h
  match xs, hlen with
  | [y0], _ => exact ⟨y0, n, hl, by simpa using hf 0 f0 rfl⟩
theorem trod_struct6 {P : Program} {t : TypeId} {f0 f1 f2 f3 f4 f5 : Field} {fuel : Nat} {cs : List Value} {x : DataW H × List MemPlace} (ht : P.underlying t = some (.struct #[f0, f1, f2, f3, f4, f5])) (h : DataW.trod enc P w base spare held fuel t cs = some x) :
    ∃ y0 y1 y2 y3 y4 y5 n, cs.length = P.cellsOf t ∧ DataW.trod enc P w base spare held n f0.type ((cs.drop f0.offset).take (P.cellsOf f0.type)) = some y0 ∧ DataW.trod enc P w base spare held n f1.type ((cs.drop f1.offset).take (P.cellsOf f1.type)) = some y1 ∧
      DataW.trod enc P w base spare held n f2.type ((cs.drop f2.offset).take (P.cellsOf f2.type)) = some y2 ∧ DataW.trod enc P w base spare held n f3.type ((cs.drop f3.offset).take (P.cellsOf f3.type)) = some y3 ∧ DataW.trod enc P w base spare held n f4.type ((cs.drop f4.offset).take (P.cellsOf f4.type)) = some y4 ∧
      DataW.trod enc P w base spare held n f5.type ((cs.drop f5.offset).take (P.cellsOf f5.type)) = some y5 := by
  obtain ⟨xs, n, _, rfl, hl, hlen, hf⟩ := DataW.trod_struct ht h
  match xs, hlen with
  | [y0, y1, y2, y3, y4, y5], _ => exact ⟨y0, y1, y2, y3, y4, y5, n, hl, by simpa using hf 0 f0 rfl, by simpa using hf 1 f1 rfl, by simpa using hf 2 f2 rfl, by simpa using hf 3 f3 rfl, by simpa using hf 4 f4 rfl, by simpa using hf 5 f5 rfl⟩
theorem open_valF {fuel : Nat} {cs : List Value} {x : DataW H × List MemPlace} (h : DataW.trod enc Try.prog w base spare held fuel 23 cs = some x) : ∃ v : Val, cs = v.cells ∧ v.fits := by
  obtain ⟨y0, y1, y2, n, rfl, hl, t0, t1, t2⟩ := trod_struct3 Try.underlying23 h
  rw [cellsVal] at hl
  simp only [cellsBool, cellsI64, cellsStr] at t0 t1 t2
  match cs, hl with
  | [c0, c1, c2], _ =>
    simp only [List.drop, List.take] at t0 t1 t2
    obtain ⟨b, hb, _⟩ := DataW.trod_bool Try.underlying4 t0
    obtain ⟨z, hz, _, wz⟩ := DataW.trod_int Try.underlying2 t1
    obtain ⟨s, hs, _, ws⟩ := DataW.trod_string Try.underlying9 t2
    simp only [List.cons.injEq, and_true] at hb hz hs
    subst hb hz hs
    exact ⟨⟨b, z, s⟩, rfl, ws⟩
theorem open_spanF {fuel : Nat} {cs : List Value} {x : DataW H × List MemPlace} (h : DataW.trod enc Try.prog w base spare held fuel 43 cs = some x) : ∃ s : Spn, cs = s.cells.toList ∧ s.fits := by
  obtain ⟨y0, y1, y2, y3, y4, y5, y6, n, hl, t0, t1, t2, t3, t4, t5, t6⟩ := trod_struct7 Try.underlying43 h
  rw [cellsSpan] at hl
  simp only [cellsBool, cellsVal] at t0 t1 t2 t3 t4 t5 t6
  match cs, hl with
  | [c0, c1, c2, c3, c4, c5, c6, c7, c8, c9, c10], _ =>
      simp only [List.drop, List.take] at t0 t1 t2 t3 t4 t5 t6
      obtain ⟨b0, hb0, _⟩ := DataW.trod_bool Try.underlying4 t0
      obtain ⟨b1, hb1, _⟩ := DataW.trod_bool Try.underlying4 t1
      obtain ⟨b2, hb2, _⟩ := DataW.trod_bool Try.underlying4 t2
      obtain ⟨k3, hk3, f3⟩ := open_valF t3
      obtain ⟨b4, hb4, _⟩ := DataW.trod_bool Try.underlying4 t4
      obtain ⟨b5, hb5, _⟩ := DataW.trod_bool Try.underlying4 t5
      obtain ⟨k6, hk6, f6⟩ := open_valF t6
      simp only [List.cons.injEq, and_true] at hb0 hb1 hb2 hb4 hb5
      simp only [Val.cells, List.cons.injEq, and_true] at hk3 hk6
      obtain ⟨rfl, rfl, rfl⟩ := hk3
      obtain ⟨rfl, rfl, rfl⟩ := hk6
      subst hb0 hb1 hb2 hb4 hb5
      exact ⟨⟨b0, b1, b2, k3, b4, b5, k6⟩, rfl, f3, f6⟩
theorem cellsRow : Try.prog.cellsOf 32 = 1 := by kernel_rfl
theorem cellsBools : Try.prog.cellsOf 25 = 1 := by kernel_rfl
theorem cellsTable : Try.prog.cellsOf 27 = 1 := by kernel_rfl
theorem cellsAct : Try.prog.cellsOf 48 = 18 := by kernel_rfl
/-- a row that was told -/
theorem open_rowF {fuel : Nat} {cs : List Value} {x : DataW H × List MemPlace} (hsp : ∀ b, spare b = true) (h : DataW.trod enc Try.prog w base spare held fuel 32 cs = some x) :
    ∃ (v : Value) (l : List Val), cs = [v] ∧ RowRd w v l ∧ ∀ a ∈ l, a.fits := by
  obtain ⟨v, l, rfl, hrd, hx⟩ := open_Rd (f := Val.cells) (G := fun a _ => a.fits) Try.underlying32 cellsVal (by omega) Val.len (fun _ _ _ _ hd => open_valF hd) hsp h
  refine ⟨v, l, rfl, hrd, fun a ha => ?_⟩
  rcases hx with ⟨_, rfl⟩ | ⟨ds, sp, _, _, hG⟩
  · simp at ha
  · obtain ⟨i, hi⟩ := List.mem_iff_getElem?.1 ha
    exact (hG i a hi).choose_spec.2
structure TabX where
  hv : Value
  c : List Bool
deriving Inhabited
theorem flat_hv : ∀ (l : List TabX), l.flatMap (fun x : TabX => [x.hv]) = l.map TabX.hv
  | [] => rfl
  | a :: l => by rw [List.flatMap_cons, flat_hv l]; rfl
theorem open_tabs {fuel : Nat} {cs : List Value} {x : DataW H × List MemPlace} (hsp : ∀ b, spare b = true) (h : DataW.trod enc Try.prog w base spare held fuel 30 cs = some x) :
    ∃ (v : Value) (l : List (List Bool)), cs = [v] ∧ TabsD (heapOf w) v l := by
  obtain ⟨v, l, rfl, hrd, hx⟩ := open_Rd (f := fun x : TabX => [x.hv]) (G := fun x _ => Rd w 1 x.hv x.c.length (x.c.flatMap bcells)) Try.underlying30 cellsTable (by omega) (fun _ => rfl) (fun _ _ _ _ hd => by
    obtain ⟨y0, n, hl, t0⟩ := trod_struct1 Try.underlying27 hd
    rw [cellsTable] at hl
    simp only [cellsBools] at t0
    rename_i cs _ _
    match cs, hl with
    | [c0], _ =>
      simp only [List.drop, List.take] at t0
      obtain ⟨v, l, hv, hrd, _⟩ := open_Rd (f := bcells) (G := fun _ _ => True) Try.underlying25 cellsBool (by omega) blen (fun _ _ _ _ hd => by
        obtain ⟨b, hb, _⟩ := DataW.trod_bool Try.underlying4 hd
        exact ⟨b, hb, trivial⟩) hsp t0
      exact ⟨⟨v, l⟩, hv, hrd⟩) hsp h
  have hall : ∀ (i : Nat) (a : TabX), l[i]? = some a → Rd w 1 a.hv a.c.length (a.c.flatMap bcells) := fun i a hi => by
    rcases hx with ⟨_, rfl⟩ | ⟨ds, sp, _, _, hG⟩
    · simp at hi
    · exact (hG i a hi).choose_spec.2
  refine ⟨v, l.map TabX.c, rfl, l.map TabX.hv, by simp, fun u hu => ?_, ?_, fun i u c hu hc => ?_⟩
  · obtain ⟨a, ha, rfl⟩ := List.mem_map.1 hu
    obtain ⟨i, hi⟩ := List.mem_iff_getElem?.1 ha
    obtain ⟨_, _, ao, cap, e, _⟩ := hall i a hi
    rw [e]
    rfl
  · rw [List.length_map, ← flat_hv]
    exact RdP.of_rd hrd (by omega)
  · rw [List.getElem?_map] at hu hc
    cases hl : l[i]? with
    | none => rw [hl] at hu; cases hu
    | some a =>
      rw [hl] at hu hc
      cases hu
      cases hc
      exact RdP.of_rd (hall i a hl) (by omega)
instance : Inhabited ActS := ⟨⟨0, 0, default, [], none, 0, 0, 0, ⟨false, false, false, default, false, false, default⟩⟩⟩
/-- an act that was told -/
theorem open_actS {fuel : Nat} {cs : List Value} {x : DataW H × List MemPlace} (hsp : ∀ b, spare b = true) (h : DataW.trod enc Try.prog w base spare held fuel 48 cs = some x) : ∃ a : ActS, cs = a.cells ∧ ActOk (heapOf w) a := by
  obtain ⟨y0, y1, y2, y3, y4, y5, n, hl, t0, t1, t2, t3, t4, t5⟩ := trod_struct6 Try.underlying48 h
  rw [cellsAct] at hl
  simp only [cellsInt, cellsVal, cellsRow, cellsSpan] at t0 t1 t2 t3 t4 t5
  match cs, hl with
  | [c0, c1, c2, c3, c4, c5, c6, c7, c8, c9, c10, c11, c12, c13, c14, c15, c16, c17], _ =>
    simp only [List.drop, List.take] at t0 t1 t2 t3 t4 t5
    obtain ⟨z0, hz0, _, _⟩ := DataW.trod_int Try.underlying3 t0
    obtain ⟨z1, hz1, _, _⟩ := DataW.trod_int Try.underlying3 t1
    obtain ⟨k, hk, fk⟩ := open_valF t2
    obtain ⟨v, l, hv, hrd, fr⟩ := open_rowF hsp t3
    obtain ⟨z4, hz4, _, _⟩ := DataW.trod_int Try.underlying3 t4
    obtain ⟨s, hs, fs⟩ := open_spanF t5
    obtain ⟨_, _, ao, cap, e, _⟩ := id hrd
    subst e
    simp only [List.cons.injEq, and_true] at hz0 hz1 hv hz4
    simp only [Val.cells, Spn.cells, List.cons.injEq, and_true] at hk hs
    obtain ⟨rfl, rfl, rfl⟩ := hk
    obtain ⟨rfl, rfl, rfl, rfl, rfl, rfl, rfl, rfl, rfl, rfl, rfl⟩ := hs
    subst hz0 hz1 hv hz4
    exact ⟨⟨z0, z1, k, l, ao, l.length, cap, z4, s⟩, rfl, RdP.of_rd hrd (by omega), fr, fk, fs⟩
theorem open_acts {fuel : Nat} {cs : List Value} {x : DataW H × List MemPlace} (hsp : ∀ b, spare b = true) (h : DataW.trod enc Try.prog w base spare held fuel 46 cs = some x) :
    ∃ (v : Value) (l : List ActS), cs = [v] ∧ RdP (heapOf w) 18 v l.length (l.flatMap ActS.cells) ∧ ∀ a ∈ l, ActOk (heapOf w) a := by
  obtain ⟨v, l, rfl, hrd, hx⟩ := open_Rd (f := ActS.cells) (G := fun a _ => ActOk (heapOf w) a) Try.underlying46 cellsAct (by omega) ActS.len (fun _ _ _ _ hd => open_actS hsp hd) hsp h
  refine ⟨v, l, rfl, RdP.of_rd hrd (by omega), fun a ha => ?_⟩
  rcases hx with ⟨_, rfl⟩ | ⟨ds, sp, _, _, hG⟩
  · simp at ha
  · obtain ⟨i, hi⟩ := List.mem_iff_getElem?.1 ha
    exact (hG i a hi).choose_spec.2
end
end Go.Proofs.Ytcbklkcpjldcjaa
