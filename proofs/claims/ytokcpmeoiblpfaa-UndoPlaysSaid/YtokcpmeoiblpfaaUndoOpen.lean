/- Arguments of the undo laws as they read. -/
import Derived.Test.YtokcpmeoiblpfaaUndoMem
namespace Go.Proofs.Ytokcpmeoiblpfaa
open Go.ChangeShapes Go.WideShapes Go.ChangeAt Go.RowKit Go.Deep
set_option maxRecDepth 100000

instance : Inhabited Val := ⟨⟨false, 0, ⟨#[]⟩⟩⟩
instance : Inhabited Ent := ⟨⟨0, default, .slice none 0 0⟩⟩

theorem agg_of_cells {v : Value} {l : List Value} (h : v.cells.toList = l) (hl : l.length ≠ 1) : v = .agg l.toArray := by
  cases v <;> simp [Value.cells] at h <;> subst h <;> simp at hl ⊢

section
variable {H : Type} {enc : TypeId × Value → H} {w : World} {base : Nat} {spare : Nat → Bool} {held : Bool}

theorem cellsVal : Try.prog.cellsOf 23 = 3 := by kernel_rfl
theorem cellsInt : Try.prog.cellsOf 3 = 1 := by kernel_rfl
theorem cellsI64 : Try.prog.cellsOf 2 = 1 := by kernel_rfl
theorem cellsBool : Try.prog.cellsOf 4 = 1 := by kernel_rfl
theorem cellsStr : Try.prog.cellsOf 9 = 1 := by kernel_rfl
theorem cellsEnt : Try.prog.cellsOf 27 = 5 := by kernel_rfl
theorem cellsRow : Try.prog.cellsOf 25 = 1 := by kernel_rfl
theorem bytesVal : Try.prog.bytesOf 23 = 32 := by kernel_rfl

theorem open_val {fuel : Nat} {cs : List Value} {x : DataW H × List MemPlace} (h : DataW.trod enc Try.prog w base spare held fuel 23 cs = some x) : ∃ v : Val, cs = v.cells ∧ v.wf := by
  obtain ⟨y0, y1, y2, n, rfl, hl, t0, t1, t2⟩ := trod_struct3 Try.underlying23 h
  rw [cellsVal] at hl
  simp only [cellsBool, cellsI64, cellsStr] at t0 t1 t2
  match cs, hl with
  | [c0, c1, c2], _ =>
    simp only [List.drop, List.take] at t0 t1 t2
    obtain ⟨b, hb, _⟩ := DataW.trod_bool Try.underlying4 t0
    obtain ⟨z, hz, _, wz⟩ := DataW.trod_int Try.underlying2 t1
    obtain ⟨s, hs, _, ws⟩ := DataW.trod_string Try.underlying9 t2
    simp only [List.cons.injEq, and_true] at hb hz hs
    subst hb hz hs
    exact ⟨⟨b, z, s⟩, rfl, wz, ws⟩

/-- a row as it reads -/
def RowRd (w : World) (v : Value) (l : List Val) : Prop := Rd w 3 v l.length (l.flatMap Val.cells) ∧ ∀ a ∈ l, a.wf

theorem open_row {fuel : Nat} {cs : List Value} {x : DataW H × List MemPlace} (hsp : ∀ b, spare b = true) (h : DataW.trod enc Try.prog w base spare held fuel 25 cs = some x) :
    ∃ (v : Value) (l : List Val), cs = [v] ∧ RowRd w v l ∧ ((x.1.weights Try.prog 25).all (· ≤ reachBytes) = true → l.length * 32 ≤ 140737488355328) := by
  obtain ⟨v, l, rfl, hrd, hx⟩ := open_Rd (f := Val.cells) (G := fun a _ => a.wf) Try.underlying25 cellsVal (by omega) Val.len (fun _ _ _ _ hd => open_val hd) hsp h
  refine ⟨v, l, rfl, ⟨hrd, fun a ha => ?_⟩, fun hz => ?_⟩
  · obtain ⟨i, hi⟩ := List.getElem?_of_mem ha
    rcases hx with ⟨_, rfl⟩ | ⟨ds, sp, _, _, h2⟩
    · cases ha
    · obtain ⟨d, _, hg⟩ := h2 i a hi
      exact hg
  · rcases hx with ⟨_, rfl⟩ | ⟨ds, sp, h1, h2, _⟩
    · simp
    · rw [h1] at hz
      have := List.all_eq_true.1 hz ((ds.length + sp.length) * Try.prog.bytesOf 23) (by simp [DataW.weights, Try.underlying25])
      simp only [bytesVal, decide_eq_true_eq] at this
      unfold reachBytes at this
      omega

theorem open_ent {fuel : Nat} {cs : List Value} {x : DataW H × List MemPlace} (hsp : ∀ b, spare b = true) (h : DataW.trod enc Try.prog w base spare held fuel 27 cs = some x) :
    ∃ (e : Ent) (l : List Val), cs = e.cells ∧ e.spot.wf ∧ RowRd w e.was l ∧ ((x.1.weights Try.prog 27).all (· ≤ reachBytes) = true → l.length * 32 ≤ 140737488355328) := by
  obtain ⟨y0, y1, y2, n, rfl, hl, t0, t1, t2⟩ := trod_struct3 Try.underlying27 h
  rw [cellsEnt] at hl
  simp only [cellsInt, cellsVal, cellsRow] at t0 t1 t2
  match cs, hl with
  | [c0, c1, c2, c3, c4], _ =>
    simp only [List.drop, List.take] at t0 t1 t2
    obtain ⟨z, hz, _, wz⟩ := DataW.trod_int Try.underlying3 t0
    obtain ⟨k, hk, wk⟩ := open_val t1
    obtain ⟨v, l, hv, hr, hw⟩ := open_row hsp t2
    simp only [List.cons.injEq, and_true] at hz hv
    unfold Val.cells at hk
    simp only [List.cons.injEq, and_true] at hk
    obtain ⟨rfl, rfl, rfl⟩ := hk
    subst hz hv
    refine ⟨⟨z, k, c4⟩, l, rfl, ⟨wz, wk⟩, hr, fun hs => hw ?_⟩
    simp only [DataW.weights, Try.underlying27] at hs
    exact weights_fields hs 2 _ _ rfl rfl

/-- entries as they read, with their rows -/
def EntsRd (w : World) (es : List (Ent × List Val)) : Prop := ∀ p ∈ es, p.1.spot.wf ∧ RowRd w p.1.was p.2
def EntsSized (es : List (Ent × List Val)) : Prop := es.length * 64 ≤ 140737488355328 ∧ ∀ p ∈ es, p.2.length * 32 ≤ 140737488355328
theorem bytesEnt : Try.prog.bytesOf 27 = 64 := by kernel_rfl

theorem open_ents {fuel : Nat} {cs : List Value} {x : DataW H × List MemPlace} (hsp : ∀ b, spare b = true) (h : DataW.trod enc Try.prog w base spare held fuel 31 cs = some x) :
    ∃ (v : Value) (es : List (Ent × List Val)), cs = [v] ∧ Rd w 5 v es.length (es.flatMap (fun p => p.1.cells)) ∧ EntsRd w es ∧ ((x.1.weights Try.prog 31).all (· ≤ reachBytes) = true → EntsSized es) := by
  obtain ⟨v, l, rfl, hrd, hx⟩ := open_Rd (α := Ent × List Val) (f := fun p => p.1.cells) (G := fun p d => (p.1.spot.wf ∧ RowRd w p.1.was p.2) ∧ ((d.weights Try.prog 27).all (· ≤ reachBytes) = true → p.2.length * 32 ≤ 140737488355328))
    Try.underlying31 cellsEnt (by omega) (fun p => Ent.len p.1) (fun _ _ _ _ hd => by
      obtain ⟨e, l, rfl, h1, h2, h3⟩ := open_ent hsp hd
      exact ⟨(e, l), rfl, ⟨h1, h2⟩, h3⟩) hsp h
  refine ⟨v, l, rfl, hrd, fun p hp => ?_, fun hz => ⟨?_, fun p hp => ?_⟩⟩
  · obtain ⟨i, hi⟩ := List.getElem?_of_mem hp
    rcases hx with ⟨_, rfl⟩ | ⟨ds, sp, _, _, h2⟩
    · cases hp
    · obtain ⟨d, _, hg⟩ := h2 i p hi
      exact hg.1
  · rcases hx with ⟨_, rfl⟩ | ⟨ds, sp, h1, h2, _⟩
    · simp
    · rw [h1] at hz
      have := List.all_eq_true.1 hz ((ds.length + sp.length) * Try.prog.bytesOf 27) (by simp [DataW.weights, Try.underlying31])
      simp only [bytesEnt, decide_eq_true_eq] at this
      unfold reachBytes at this
      omega
  · obtain ⟨i, hi⟩ := List.getElem?_of_mem hp
    rcases hx with ⟨_, rfl⟩ | ⟨ds, sp, h1, _, h2⟩
    · cases hp
    · obtain ⟨d, hd, hg⟩ := h2 i p hi
      refine hg.2 (List.all_eq_true.2 fun n hn => List.all_eq_true.1 hz n ?_)
      rw [h1]
      simp only [DataW.weights, Try.underlying31, List.mem_cons, List.mem_append]
      exact .inr (.inl (weightsAll_mem hd n hn))

theorem RowRd.one {v : Value} {l : List Val} (_ : RowRd w v l) : ∀ u ∈ l.flatMap Val.cells, u.oneCell' = true := by
  intro u hu
  obtain ⟨a, _, ha⟩ := List.mem_flatMap.1 hu
  exact Val.one a u ha
end
end Go.Proofs.Ytokcpmeoiblpfaa
