/- Arguments of the tree's laws as they read. -/
import Derived.Test.YtjijemeabfiipaaTree18
namespace Go.Proofs.Ytjijemeabfiipaa
open Go.ChangeShapes Go.WideShapes Go.ChangeAt Go.RowKit Go.Deep
set_option maxRecDepth 100000
set_option linter.unusedSimpArgs false

instance : Inhabited Spn := ⟨⟨false, false, false, default, false, false, default⟩⟩
structure ActT where
  del : Bool
  k : Val
  v : Int
instance : Inhabited ActT := ⟨⟨false, default, 0⟩⟩
def ActT.cells (a : ActT) : List Value := [.bool a.del, .bool a.k.t, .int .i64 a.k.n, .string a.k.s, .int .i64 a.v]
theorem ActT.len (a : ActT) : a.cells.length = 5 := rfl
/-- acts as they read -/
def ActsRd (w : World) (v : Value) (l : List ActT) : Prop := Rd w 5 v l.length (l.flatMap ActT.cells)
def ValsRd (w : World) (v : Value) (l : List Val) : Prop := Rd w 3 v l.length (l.flatMap Val.cells)

theorem agg_of_cells {v : Value} {l : List Value} (h : v.cells.toList = l) (hl : l.length ≠ 1) : v = .agg l.toArray := by
  cases v <;> simp [Value.cells] at h <;> subst h <;> simp at hl ⊢

section
variable {H : Type} {enc : TypeId × Value → H} {w : World} {base : Nat} {spare : Nat → Bool} {held : Bool}
theorem cellsVal : Try.prog.cellsOf 24 = 3 := by kernel_rfl
theorem cellsInt : Try.prog.cellsOf 3 = 1 := by kernel_rfl
theorem cellsI64 : Try.prog.cellsOf 2 = 1 := by kernel_rfl
theorem cellsBool : Try.prog.cellsOf 4 = 1 := by kernel_rfl
theorem cellsStr : Try.prog.cellsOf 9 = 1 := by kernel_rfl
theorem cellsAct : Try.prog.cellsOf 31 = 5 := by kernel_rfl
theorem cellsSpan : Try.prog.cellsOf 26 = 11 := by kernel_rfl

theorem open_val {fuel : Nat} {cs : List Value} {x : DataW H × List MemPlace} (h : DataW.trod enc Try.prog w base spare held fuel 24 cs = some x) : ∃ v : Val, cs = v.cells := by
  obtain ⟨y0, y1, y2, n, rfl, hl, t0, t1, t2⟩ := trod_struct3 Try.underlying24 h
  rw [cellsVal] at hl
  simp only [cellsBool, cellsI64, cellsStr] at t0 t1 t2
  match cs, hl with
  | [c0, c1, c2], _ =>
    simp only [List.drop, List.take] at t0 t1 t2
    obtain ⟨b, hb, _⟩ := DataW.trod_bool Try.underlying4 t0
    obtain ⟨z, hz, _, wz⟩ := DataW.trod_int Try.underlying2 t1
    obtain ⟨s, hs, _, ws⟩ := DataW.trod_string Try.underlying9 t2
    simp only [List.cons.injEq, and_true] at hb hz hs
    subst hb hz hs
    exact ⟨⟨b, z, s⟩, rfl⟩
theorem open_act {fuel : Nat} {cs : List Value} {x : DataW H × List MemPlace} (h : DataW.trod enc Try.prog w base spare held fuel 31 cs = some x) : ∃ a : ActT, cs = a.cells := by
  obtain ⟨y0, y1, y2, n, rfl, hl, t0, t1, t2⟩ := trod_struct3 Try.underlying31 h
  rw [cellsAct] at hl
  simp only [cellsBool, cellsVal, cellsInt] at t0 t1 t2
  match cs, hl with
  | [c0, c1, c2, c3, c4], _ =>
    simp only [List.drop, List.take] at t0 t1 t2
    obtain ⟨b, hb, _⟩ := DataW.trod_bool Try.underlying4 t0
    obtain ⟨k, hk⟩ := open_val t1
    obtain ⟨z, hz, _, _⟩ := DataW.trod_int Try.underlying3 t2
    simp only [List.cons.injEq, and_true] at hb hz
    simp only [Val.cells, List.cons.injEq, and_true] at hk
    obtain ⟨rfl, rfl, rfl⟩ := hk
    subst hb hz
    exact ⟨⟨b, k, z⟩, rfl⟩
theorem trod_struct7 {P : Program} {t : TypeId} {f0 f1 f2 f3 f4 f5 f6 : Field} {fuel : Nat} {cs : List Value} {x : DataW H × List MemPlace} (ht : P.underlying t = some (.struct #[f0, f1, f2, f3, f4, f5, f6])) (h : DataW.trod enc P w base spare held fuel t cs = some x) :
    ∃ y0 y1 y2 y3 y4 y5 y6 n, cs.length = P.cellsOf t ∧ DataW.trod enc P w base spare held n f0.type ((cs.drop f0.offset).take (P.cellsOf f0.type)) = some y0 ∧ DataW.trod enc P w base spare held n f1.type ((cs.drop f1.offset).take (P.cellsOf f1.type)) = some y1 ∧
      DataW.trod enc P w base spare held n f2.type ((cs.drop f2.offset).take (P.cellsOf f2.type)) = some y2 ∧ DataW.trod enc P w base spare held n f3.type ((cs.drop f3.offset).take (P.cellsOf f3.type)) = some y3 ∧ DataW.trod enc P w base spare held n f4.type ((cs.drop f4.offset).take (P.cellsOf f4.type)) = some y4 ∧
      DataW.trod enc P w base spare held n f5.type ((cs.drop f5.offset).take (P.cellsOf f5.type)) = some y5 ∧ DataW.trod enc P w base spare held n f6.type ((cs.drop f6.offset).take (P.cellsOf f6.type)) = some y6 := by
  obtain ⟨xs, n, _, rfl, hl, hlen, hf⟩ := DataW.trod_struct ht h
  match xs, hlen with
  | [y0, y1, y2, y3, y4, y5, y6], _ => exact ⟨y0, y1, y2, y3, y4, y5, y6, n, hl, by simpa using hf 0 f0 rfl, by simpa using hf 1 f1 rfl, by simpa using hf 2 f2 rfl, by simpa using hf 3 f3 rfl, by simpa using hf 4 f4 rfl, by simpa using hf 5 f5 rfl, by simpa using hf 6 f6 rfl⟩
theorem open_span {fuel : Nat} {cs : List Value} {x : DataW H × List MemPlace} (h : DataW.trod enc Try.prog w base spare held fuel 26 cs = some x) : ∃ s : Spn, cs = s.cells.toList := by
  obtain ⟨y0, y1, y2, y3, y4, y5, y6, n, hl, t0, t1, t2, t3, t4, t5, t6⟩ := trod_struct7 Try.underlying26 h
  rw [cellsSpan] at hl
  simp only [cellsBool, cellsVal] at t0 t1 t2 t3 t4 t5 t6
  match cs, hl with
  | [c0, c1, c2, c3, c4, c5, c6, c7, c8, c9, c10], _ =>
      simp only [List.drop, List.take] at t0 t1 t2 t3 t4 t5 t6
      obtain ⟨b0, hb0, _⟩ := DataW.trod_bool Try.underlying4 t0
      obtain ⟨b1, hb1, _⟩ := DataW.trod_bool Try.underlying4 t1
      obtain ⟨b2, hb2, _⟩ := DataW.trod_bool Try.underlying4 t2
      obtain ⟨k3, hk3⟩ := open_val t3
      obtain ⟨b4, hb4, _⟩ := DataW.trod_bool Try.underlying4 t4
      obtain ⟨b5, hb5, _⟩ := DataW.trod_bool Try.underlying4 t5
      obtain ⟨k6, hk6⟩ := open_val t6
      simp only [List.cons.injEq, and_true] at hb0 hb1 hb2 hb4 hb5
      simp only [Val.cells, List.cons.injEq, and_true] at hk3 hk6
      obtain ⟨rfl, rfl, rfl⟩ := hk3
      obtain ⟨rfl, rfl, rfl⟩ := hk6
      subst hb0 hb1 hb2 hb4 hb5
      exact ⟨⟨b0, b1, b2, k3, b4, b5, k6⟩, rfl⟩
theorem open_acts {fuel : Nat} {cs : List Value} {x : DataW H × List MemPlace} (hsp : ∀ b, spare b = true) (h : DataW.trod enc Try.prog w base spare held fuel 22 cs = some x) :
    ∃ (v : Value) (l : List ActT), cs = [v] ∧ ActsRd w v l := by
  obtain ⟨v, l, rfl, hrd, hx⟩ := open_Rd (f := ActT.cells) (G := fun _ _ => True) Try.underlying22 cellsAct (by omega) ActT.len (fun _ _ _ _ hd => by
    obtain ⟨e, rfl⟩ := open_act hd
    exact ⟨e, rfl, trivial⟩) hsp h
  exact ⟨v, l, rfl, hrd⟩
theorem open_vals {fuel : Nat} {cs : List Value} {x : DataW H × List MemPlace} (hsp : ∀ b, spare b = true) (h : DataW.trod enc Try.prog w base spare held fuel 46 cs = some x) :
    ∃ (v : Value) (l : List Val), cs = [v] ∧ ValsRd w v l := by
  obtain ⟨v, l, rfl, hrd, hx⟩ := open_Rd (f := Val.cells) (G := fun _ _ => True) Try.underlying46 cellsVal (by omega) Val.len (fun _ _ _ _ hd => by
    obtain ⟨e, rfl⟩ := open_val hd
    exact ⟨e, rfl, trivial⟩) hsp h
  exact ⟨v, l, rfl, hrd⟩
end
theorem act_cells {w : World} {g og N cap k : Nat} {xs : List ActT} {x : ActT} (h : Rd w 5 (.slice (some ⟨g, og, none⟩) N cap) N (xs.flatMap ActT.cells)) (hx : xs[k]? = some x) :
    w.cell? ⟨g, og + k * 5, none⟩ = some (.bool x.del) ∧ w.cell? ⟨g, og + k * 5 + 1, none⟩ = some (.bool x.k.t) ∧ w.cell? ⟨g, og + k * 5 + 2, none⟩ = some (.int .i64 x.k.n) ∧ w.cell? ⟨g, og + k * 5 + 3, none⟩ = some (.string x.k.s) ∧ w.cell? ⟨g, og + k * 5 + 4, none⟩ = some (.int .i64 x.v) := by
  have hlt := (List.getElem?_eq_some_iff.1 hx).1
  rcases h.2.2 with ⟨_, _, hv, _, _, _, hcell⟩
  cases hv
  rcases hcell with h0 | ⟨_, _, hg, hc⟩
  · have := h.1
    rw [flat_len ActT.len] at this
    omega
  cases hg
  have f := fun j u hj => hc _ _ (flat_get ActT.len xs k _ hx j u hj)
  have a0 := f 0 _ rfl
  have a1 := f 1 _ rfl
  have a2 := f 2 _ rfl
  have a3 := f 3 _ rfl
  have a4 := f 4 _ rfl
  rw [Nat.add_zero] at a0
  rw [← Nat.add_assoc] at a1 a2 a3 a4
  exact ⟨a0, a1, a2, a3, a4⟩
end Go.Proofs.Ytjijemeabfiipaa
