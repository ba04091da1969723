/- Joined texts: Claims among a law's arguments, opened. A queue that is none has nothing (the law FifoNone). -/
import Derived.Test.YtkdinhlmghfpeaaGreatDoorJ27
import Derived.Test.YtkdinhlmghfpeaaGreatDoorJ12
import Derived.Test.YtkdinhlmghfpeaaGreatDoorJ25
import Derived.Test.YtkdinhlmghfpeaaGreatDoorJ30
import Derived.Test.YtkdinhlmghfpeaaGreatDoorJ31
/- Claims among a law's arguments, opened. -/
namespace Go.Proofs.YtkdinhlmghfpeaaGreatDoor
open Go.ChangeShapes Go.WideShapes Go.ChangeAt Go.RowKit Go.Deep
set_option maxRecDepth 100000
set_option linter.unusedSimpArgs false

instance : Inhabited PredE := ⟨⟨0, 0, ⟨false, 0, ⟨#[]⟩⟩, ⟨false, 0, ⟨#[]⟩⟩, none, 0, 0, []⟩⟩
instance : Inhabited ClmE := ⟨⟨0, 0, 0, ⟨false, 0, ⟨#[]⟩⟩, none, 0, 0, [], default⟩⟩
instance : Inhabited (Value × List Val) := ⟨(.int .i64 0, [])⟩
section
variable {H : Type} {enc : TypeId × Value → H} {P : Program} {w : World} {base : Nat} {spare : Nat → Bool} {held : Bool}
/-- a slice of elements, each of which is f's cells; the elements are opened with less fuel -/
theorem open_RdF {α : Type} [Inhabited α] {f : α → List Value} {G : α → Prop} {size : Nat} {t e : TypeId} (ht : P.underlying t = some (.slice e)) (hsz : P.cellsOf e = size) (hpos : 0 < size) (hf : ∀ a, (f a).length = size)
    {fuel : Nat} (each : ∀ n, fuel = n + 1 → ∀ cs d, DataW.trod enc P w base spare held n e cs = some d → ∃ a : α, cs = f a ∧ G a)
    {cs : List Value} {x : DataW H × List MemPlace} (h : DataW.trod enc P w base spare held fuel t cs = some x) :
    ∃ (v : Value) (l : List α), cs = [v] ∧ Rd w size v l.length (l.flatMap f) ∧ ∀ a ∈ l, G a := by
  rcases DataW.trod_slice ht h with ⟨rfl, _⟩ | ⟨a, len, cap, elems, rest, n, hfu, rfl, _, hb, hl, hm, hlen, hel, _, _⟩
  · exact ⟨_, [], rfl, Rd.nil _ _, fun a ha => by cases ha⟩
  · rw [hsz] at hel
    obtain ⟨A, hA⟩ := choose_lt (α := α) (p := fun i b => w.cells? base (a.add (i * size)) size = some (f b) ∧ G b) (fun i (hi : i < len) => by
      have h1 := hel i hi
      rw [List.getElem?_eq_getElem (show i < elems.length by omega)] at h1
      obtain ⟨cs', h2, h3⟩ := Option.bind_eq_some_iff.1 h1
      obtain ⟨b, rfl, hg⟩ := each n hfu _ _ h3
      exact ⟨b, h2, hg⟩)
    have hlen : ((List.range len).map A).length = len := by simp
    have hget : ∀ i, i < len → ((List.range len).map A)[i]? = some (A i) := fun i hi => by simp [List.getElem?_map, List.getElem?_range hi]
    refine ⟨_, (List.range len).map A, rfl, ⟨by rw [flat_len hf], by rw [hlen]; omega, some a, cap, by rw [hlen], by rw [hlen]; omega, hm, fun h => by simp at h, ?_⟩, fun b hb => ?_⟩
    · rw [hlen]
      by_cases h0 : len = 0
      · exact .inl h0
      · right
        obtain ⟨_, hl0, hc0⟩ := World.cells?_some (hA 0 (by omega)).1
        have h00 := hc0 0 hpos
        have hsome : ∃ u, (f (A 0))[0]? = some u := ⟨(f (A 0))[0]'(by rw [hf]; omega), List.getElem?_eq_getElem _⟩
        obtain ⟨u0, hu0⟩ := hsome
        rw [hu0] at h00
        obtain ⟨g, o, spot⟩ := a
        have hspot : spot = none := by simpa [Addr.add] using World.cell?_spot h00
        subst hspot
        refine ⟨g, o, rfl, fun j u hu => ?_⟩
        have hj : j < len * size := by
          have := (List.getElem?_eq_some_iff.1 hu).1
          rw [flat_len hf, hlen] at this
          exact this
        have hi : j / size < len := Nat.div_lt_of_lt_mul (by rw [Nat.mul_comm]; exact hj)
        have hr : j % size < size := Nat.mod_lt _ hpos
        have hjj : j / size * size + j % size = j := by rw [Nat.mul_comm]; exact Nat.div_add_mod j size
        obtain ⟨_, _, hc⟩ := World.cells?_some (hA _ hi).1
        have hu' : ∃ u', (f (A (j / size)))[j % size]? = some u' := ⟨(f (A (j / size)))[j % size]'(by rw [hf]; exact hr), List.getElem?_eq_getElem _⟩
        obtain ⟨u', hu'⟩ := hu'
        have := flat_get hf _ _ _ (hget _ hi) _ _ hu'
        rw [hjj, hu] at this
        obtain rfl := Option.some.inj this
        have h2 := hc _ hr
        rw [hu'] at h2
        rw [add_none, add_none, Nat.add_assoc, hjj] at h2
        exact h2
    · obtain ⟨i, hi, rfl⟩ := List.mem_map.1 hb
      exact (hA i (by simpa using hi)).2
theorem struct5F {t : TypeId} {f0 f1 f2 f3 f4 : Field} {fuel : Nat} {cs : List Value} {x : DataW H × List MemPlace} (ht : P.underlying t = some (.struct #[f0, f1, f2, f3, f4])) (h : DataW.trod enc P w base spare held fuel t cs = some x) :
    ∃ y0 y1 y2 y3 y4 n, fuel = n + 1 ∧ cs.length = P.cellsOf t ∧ DataW.trod enc P w base spare held n f0.type ((cs.drop f0.offset).take (P.cellsOf f0.type)) = some y0 ∧ DataW.trod enc P w base spare held n f1.type ((cs.drop f1.offset).take (P.cellsOf f1.type)) = some y1 ∧
      DataW.trod enc P w base spare held n f2.type ((cs.drop f2.offset).take (P.cellsOf f2.type)) = some y2 ∧ DataW.trod enc P w base spare held n f3.type ((cs.drop f3.offset).take (P.cellsOf f3.type)) = some y3 ∧ DataW.trod enc P w base spare held n f4.type ((cs.drop f4.offset).take (P.cellsOf f4.type)) = some y4 := by
  obtain ⟨xs, n, hn, rfl, hl, hlen, hf⟩ := DataW.trod_struct ht h
  match xs, hlen with
  | [y0, y1, y2, y3, y4], _ => exact ⟨y0, y1, y2, y3, y4, n, hn, hl, by simpa using hf 0 f0 rfl, by simpa using hf 1 f1 rfl, by simpa using hf 2 f2 rfl, by simpa using hf 3 f3 rfl, by simpa using hf 4 f4 rfl⟩
theorem struct6F {t : TypeId} {f0 f1 f2 f3 f4 f5 : Field} {fuel : Nat} {cs : List Value} {x : DataW H × List MemPlace} (ht : P.underlying t = some (.struct #[f0, f1, f2, f3, f4, f5])) (h : DataW.trod enc P w base spare held fuel t cs = some x) :
    ∃ y0 y1 y2 y3 y4 y5 n, fuel = n + 1 ∧ cs.length = P.cellsOf t ∧ DataW.trod enc P w base spare held n f0.type ((cs.drop f0.offset).take (P.cellsOf f0.type)) = some y0 ∧ DataW.trod enc P w base spare held n f1.type ((cs.drop f1.offset).take (P.cellsOf f1.type)) = some y1 ∧
      DataW.trod enc P w base spare held n f2.type ((cs.drop f2.offset).take (P.cellsOf f2.type)) = some y2 ∧ DataW.trod enc P w base spare held n f3.type ((cs.drop f3.offset).take (P.cellsOf f3.type)) = some y3 ∧ DataW.trod enc P w base spare held n f4.type ((cs.drop f4.offset).take (P.cellsOf f4.type)) = some y4 ∧
      DataW.trod enc P w base spare held n f5.type ((cs.drop f5.offset).take (P.cellsOf f5.type)) = some y5 := by
  obtain ⟨xs, n, hn, rfl, hl, hlen, hf⟩ := DataW.trod_struct ht h
  match xs, hlen with
  | [y0, y1, y2, y3, y4, y5], _ => exact ⟨y0, y1, y2, y3, y4, y5, n, hn, hl, by simpa using hf 0 f0 rfl, by simpa using hf 1 f1 rfl, by simpa using hf 2 f2 rfl, by simpa using hf 3 f3 rfl, by simpa using hf 4 f4 rfl, by simpa using hf 5 f5 rfl⟩
theorem struct3F {t : TypeId} {f0 f1 f2 : Field} {fuel : Nat} {cs : List Value} {x : DataW H × List MemPlace} (ht : P.underlying t = some (.struct #[f0, f1, f2])) (h : DataW.trod enc P w base spare held fuel t cs = some x) :
    ∃ y0 y1 y2 n, fuel = n + 1 ∧ cs.length = P.cellsOf t ∧ DataW.trod enc P w base spare held n f0.type ((cs.drop f0.offset).take (P.cellsOf f0.type)) = some y0 ∧ DataW.trod enc P w base spare held n f1.type ((cs.drop f1.offset).take (P.cellsOf f1.type)) = some y1 ∧
      DataW.trod enc P w base spare held n f2.type ((cs.drop f2.offset).take (P.cellsOf f2.type)) = some y2 := by
  obtain ⟨xs, n, hn, rfl, hl, hlen, hf⟩ := DataW.trod_struct ht h
  match xs, hlen with
  | [y0, y1, y2], _ => exact ⟨y0, y1, y2, n, hn, hl, by simpa using hf 0 f0 rfl, by simpa using hf 1 f1 rfl, by simpa using hf 2 f2 rfl⟩
end
section
variable {H : Type} {enc : TypeId × Value → H} {w : World} {base : Nat} {spare : Nat → Bool} {held : Bool}
theorem cellsValO : Tryz.prog.cellsOf 38 = 3 := by kernel_rfl
theorem cellsIntO : Tryz.prog.cellsOf 3 = 1 := by kernel_rfl
theorem cellsModeO : Tryz.prog.cellsOf 27 = 1 := by kernel_rfl
theorem cellsI64O : Tryz.prog.cellsOf 2 = 1 := by kernel_rfl
theorem cellsBoolO : Tryz.prog.cellsOf 4 = 1 := by kernel_rfl
theorem cellsStrO : Tryz.prog.cellsOf 9 = 1 := by kernel_rfl
theorem cellsPrO : Tryz.prog.cellsOf 42 = 9 := by kernel_rfl
theorem cellsPrsO : Tryz.prog.cellsOf 40 = 1 := by kernel_rfl
theorem cellsRowO : Tryz.prog.cellsOf 91 = 1 := by kernel_rfl
theorem cellsRowsO : Tryz.prog.cellsOf 39 = 1 := by kernel_rfl
theorem cellsClO : Tryz.prog.cellsOf 44 = 16 := by kernel_rfl
theorem openO_val {fuel : Nat} {cs : List Value} {x : DataW H × List MemPlace} (h : DataW.trod enc Tryz.prog w base spare held fuel 38 cs = some x) : ∃ v : Val, cs = v.cells := by
  obtain ⟨y0, y1, y2, n, _, hl, t0, t1, t2⟩ := struct3F Tryz.underlying38 h
  rw [cellsValO] at hl
  simp only [cellsBoolO, cellsI64O, cellsStrO] at t0 t1 t2
  match cs, hl with
  | [c0, c1, c2], _ =>
    simp only [List.drop, List.take] at t0 t1 t2
    obtain ⟨b, hb, _⟩ := DataW.trod_bool Tryz.underlying4 t0
    obtain ⟨z, hz, _, wz⟩ := DataW.trod_int Tryz.underlying2 t1
    obtain ⟨s, hs, _, ws⟩ := DataW.trod_string Tryz.underlying9 t2
    simp only [List.cons.injEq, and_true] at hb hz hs
    subst hb hz hs
    exact ⟨⟨b, z, s⟩, rfl⟩
theorem openO_pred : ∀ (fuel : Nat) {cs : List Value} {x : DataW H × List MemPlace}, DataW.trod enc Tryz.prog w base spare held fuel 42 cs = some x → ∃ e : PredE, cs = e.cells ∧ PredsRd w (.slice e.la e.ln e.lc) e.subs := by
  intro fuel
  induction fuel using Nat.strongRecOn with
  | _ fuel ih =>
    intro cs x h
    obtain ⟨y0, y1, y2, y3, y4, n, hn, hl, t0, t1, t2, t3, t4⟩ := struct5F Tryz.underlying42 h
    rw [cellsPrO] at hl
    simp only [cellsIntO, cellsValO, cellsPrsO] at t0 t1 t2 t3 t4
    match cs, hl with
    | [c0, c1, c2, c3, c4, c5, c6, c7, c8], _ =>
      simp only [List.drop, List.take] at t0 t1 t2 t3 t4
      obtain ⟨z0, hz0, _, _⟩ := DataW.trod_int Tryz.underlying3 t0
      obtain ⟨z1, hz1, _, _⟩ := DataW.trod_int Tryz.underlying3 t1
      obtain ⟨v, hv⟩ := openO_val t2
      obtain ⟨u, hu⟩ := openO_val t3
      obtain ⟨s, es, hs, hrd, hes⟩ := open_RdF (f := PredE.cells) (G := fun e : PredE => PredsRd w (.slice e.la e.ln e.lc) e.subs) Tryz.underlying40 cellsPrO (by omega) PredE.len (fun m hm cs d hd => ih m (by omega) hd) t4
      simp only [List.cons.injEq, and_true] at hz0 hz1 hs
      simp only [Val.cells, List.cons.injEq, and_true] at hv hu
      obtain ⟨rfl, rfl, rfl⟩ := hv
      obtain ⟨rfl, rfl, rfl⟩ := hu
      subst hz0 hz1 hs
      obtain ⟨_, _, la, lc, rfl, _⟩ := id hrd
      exact ⟨⟨z0, z1, v, u, la, es.length, lc, es.map PredE.p⟩, rfl, .mk _ es hrd hes⟩
theorem openO_row {fuel : Nat} {cs : List Value} {x : DataW H × List MemPlace} (h : DataW.trod enc Tryz.prog w base spare held fuel 91 cs = some x) : ∃ (v : Value) (r : List Val), cs = [v] ∧ RowRd w v r := by
  obtain ⟨v, r, hc, hrd, _⟩ := open_RdF (f := Val.cells) (G := fun _ : Val => True) Tryz.underlying91 cellsValO (by omega) Val.len (fun m hm cs d hd => by obtain ⟨e, he⟩ := openO_val hd; exact ⟨e, he, trivial⟩) h
  exact ⟨v, r, hc, hrd⟩
theorem flat_fst (l : List (Value × List Val)) : l.flatMap (fun a => [a.1]) = l.map Prod.fst := by
  induction l with
  | nil => rfl
  | cons x l ih => rw [List.flatMap_cons, ih]; rfl
theorem openO_rows {fuel : Nat} {cs : List Value} {x : DataW H × List MemPlace} (h : DataW.trod enc Tryz.prog w base spare held fuel 39 cs = some x) : ∃ (v : Value) (rs : List (List Val)), cs = [v] ∧ RowsRd w v rs := by
  obtain ⟨v, l, hc, hrd, hl⟩ := open_RdF (f := fun a : Value × List Val => [a.1]) (G := fun a : Value × List Val => RowRd w a.1 a.2) Tryz.underlying39 cellsRowO (by omega) (fun _ => rfl) (fun m hm cs d hd => by obtain ⟨v, r, he, hr⟩ := openO_row hd; exact ⟨(v, r), he, hr⟩) h
  rw [flat_fst] at hrd
  refine ⟨v, l.map Prod.snd, hc, l.map Prod.fst, by simp, by simpa using hrd, fun i u r hu hr => ?_⟩
  rw [List.getElem?_map] at hu hr
  cases hx : l[i]? with
  | none => rw [hx] at hu; cases hu
  | some a =>
    rw [hx] at hu hr
    obtain rfl := Option.some.inj hu
    obtain rfl := Option.some.inj hr
    exact hl a (List.mem_of_getElem? hx)
theorem openO_claim {fuel : Nat} {cs : List Value} {x : DataW H × List MemPlace} (h : DataW.trod enc Tryz.prog w base spare held fuel 44 cs = some x) : ∃ c : ClmE, cs = c.cells ∧ RdCl w c := by
  obtain ⟨y0, y1, y2, y3, y4, y5, n, hn, hl, t0, t1, t2, t3, t4, t5⟩ := struct6F Tryz.underlying44 h
  rw [cellsClO] at hl
  simp only [cellsIntO, cellsValO, cellsModeO, cellsRowsO, cellsPrO] at t0 t1 t2 t3 t4 t5
  match cs, hl with
  | [c0, c1, c2, c3, c4, c5, c6, c7, c8, c9, c10, c11, c12, c13, c14, c15], _ =>
    simp only [List.drop, List.take] at t0 t1 t2 t3 t4 t5
    obtain ⟨z0, hz0, _, _⟩ := DataW.trod_int Tryz.underlying3 t0
    obtain ⟨z1, hz1, _, _⟩ := DataW.trod_int Tryz.underlying3 t1
    obtain ⟨z2, hz2, _, _⟩ := DataW.trod_int Tryz.underlying27 t2
    obtain ⟨v, hv⟩ := openO_val t3
    obtain ⟨s, rs, hs, hrd⟩ := openO_rows t4
    obtain ⟨p, hp, hpr⟩ := openO_pred _ t5
    simp only [List.cons.injEq, and_true] at hz0 hz1 hz2 hs
    simp only [Val.cells, List.cons.injEq, and_true] at hv
    simp only [PredE.cells, List.cons.injEq, and_true] at hp
    obtain ⟨rfl, rfl, rfl⟩ := hv
    obtain ⟨rfl, rfl, rfl, rfl, rfl, rfl, rfl, rfl, rfl⟩ := hp
    subst hz0 hz1 hz2 hs
    obtain ⟨hs, h1, ⟨_, _, ia, ic, rfl, _⟩, _⟩ := id hrd
    exact ⟨⟨z0, z1, z2, v, ia, rs.length, ic, rs, p⟩, rfl, hrd, hpr⟩
end
theorem aggO_cells {v : Value} {l : List Value} (h : v.cells.toList = l) (hl : l.length ≠ 1) : v = .agg l.toArray := by
  cases v <;> simp [Value.cells] at h <;> subst h <;> simp at hl ⊢
theorem PredsAt.of_rd {w : World} {v : Value} {l : List PredT} (h : PredsRd w v l) : PredsAt (heapOf w) v l := by
  induction h with
  | mk v es h _ ih => exact .mk v es (RdP.of_rd h (by omega)) ih
theorem RowsAt.of_rd {w : World} {v : Value} {rs : List (List Val)} (h : RowsRd w v rs) : RowsAt (heapOf w) v rs := by
  obtain ⟨hs, h1, h2, h3⟩ := h
  refine ⟨hs, h1, fun u hu => ?_, RdP.of_rd h2 (by omega), fun i u r a b => RdP.of_rd (h3 i u r a b) (by omega)⟩
  obtain ⟨i, hi, rfl⟩ := List.mem_iff_getElem.1 hu
  obtain ⟨_, _, _, _, hv, _⟩ := h3 i _ (rs[i]'(by omega)) (List.getElem?_eq_getElem hi) (List.getElem?_eq_getElem (by omega))
  rw [hv]
  rfl
theorem ClOk.of_rd {w : World} {x : ClmE} (h : RdCl w x) : ClOk (heapOf w) x := ⟨RowsAt.of_rd h.1, PredsAt.of_rd h.2⟩
end Go.Proofs.YtkdinhlmghfpeaaGreatDoor

/- A queue that is none has nothing (the law FifoNone). -/
namespace Go.Proofs.YtkdinhlmghfpeaaGreatDoor
open Go.ChangeShapes Go.WideShapes Go.ChangeAt Go.RowKit
set_option maxRecDepth 100000
set_option linter.unusedSimpArgs false

theorem wpList_build_onew {P : Program} {ops : Array Oper} {rest : List Oper} {o : Oper} {a : Act} {w : World} {Q : Exit → Act → World → Prop} (hgd : Region.wanted o (yielded ops a.tmps) = true) (t : TypeId) (x : Operand) (ho : o.op = .buildSlice t 1 #[(0, x)]) (e : TypeId) (i : TypeInfo) (z : Value) (cs : List Value) (hx : a.eval x = .agg cs.toArray) (ht : P.underlying t = some (.slice e)) (hi : P.info? e = some i) (hz : i.zero = some z) (hsize : i.size = cs.length) (hpos : 0 < cs.length) (hle : cs.length ≤ 1000)
    (h : wpList P ops Q rest (a.put o.dst (.slice (some ⟨w.heap.size, 0, none⟩) 1 1)) (w.alloc (.cells cs.toArray e))) : wpList P ops Q (o :: rest) a w :=
  wpList_do hgd fun _ hK => by
    have hrun := run_build_one w t e i z cs ht hi hz hsize hpos hle
    unfold Oper.wp execOp
    simp only [ho, List.map_toArray, List.map_cons, List.map_nil, hx, Sem.run_bind, Sem.run_pure, Result.andThen_ok, hrun]
    exact hK _ _ h
theorem run_build_cl0 (w : World) : (Instr.build tCl #[]).run Tryz.prog w = .ok (.agg cl0.cells.toArray) w := run_build w _ _ _ (by kernel_rfl)
theorem wpList_build_cl0w {w : World} {o : Oper} {a : Act} {ops : Array Oper} {rest : List Oper} {Q : Exit → Act → World → Prop} (hgd : Region.wanted o (yielded ops a.tmps) = true) (ho : o.op = .build tCl #[])
    (h : wpList Tryz.prog ops Q rest (a.put o.dst (.agg cl0.cells.toArray)) w) : wpList Tryz.prog ops Q (o :: rest) a w :=
  wpList_do hgd fun _ hK => by
    have hrun := run_build_cl0 w
    unfold Oper.wp execOp
    simp only [ho, List.map_toArray, List.map_nil, Sem.run_bind, Sem.run_pure, Result.andThen_ok, hrun]
    exact hK _ _ h
theorem none_ask (o : Int) (c : Clm) : askQ RC ⟨[], []⟩ o c true = (⟨[⟨o, c, false⟩], []⟩, true) := rfl
theorem none_holds (o : Int) (c : Clm) : holdsQ ⟨[⟨o, c, false⟩], []⟩ o = [c] := by simp [holdsQ, ofE]
set_option maxHeartbeats 8000000 in
theorem noneLaw_ok {W : World} (o : Int) (c : ClmE) (hE : EnvD (heapOf W)) (hc : RdCl W c) : Calls Tryz.prog 10 #[.int .i64 o, .agg c.cells.toArray] W fun e w' => e = .returned (.bool true) ∧ Kept (fun _ => False) W w' := by
  obtain ⟨i0, hi, hz0, hz1, hz2⟩ := info_parts infoCl
  have HI := Lib.hid (And.intro hi (And.intro hz0 (And.intro hz1 hz2)))
  obtain ⟨D, hD⟩ : ∃ D, D = heapOf W := ⟨_, rfl⟩
  have hs0 : Sat W D W [] := by rw [hD]; exact Sat.start W
  have HEND := Lib.hid (show ∀ w' D', PH.le D D' → Sat W D' w' [] → Kept (fun _ => False) W w' from fun w' D' le hs => hs.end_ (by rw [← hD]; exact le))
  have HOK := Lib.hid (show ClOk D c by rw [hD]; exact ClOk.of_rd hc)
  rw [← hD] at hE
  have HE := Lib.hid hE
  obtain ⟨W1, hW1, hs1⟩ := Sat.hide (hs0.alloc c.cells.toArray tCl)
  have HW1 := Lib.hid hW1
  have HAW := Lib.hid (awake_ok hE hs1)
  clear hD hs0 hE hc hW1 hs1 hi hz0 hz1 hz2
  go_enter Tryz.func10, Tryz.ntmps10
  go_upto_region 1 with fail
  rw [← HW1.out]
  clear HW1
  generalize W.heap.size = bc at *
  go_upto_region 4 with (go_at_call 11; refine HAW.out.mono ?_; rintro e1 w1 ⟨rfl, hs1⟩; have HS1 := Lib.hid hs1; clear hs1 HAW)
  have HLC := Lib.hid (loadCl (blk_range (HS1.out.blk 0 rfl)))
  have HFW := Lib.hid (few_ok (HOK.out.rd HS1.out))
  cases hfew : fewB c.c
  · rw [hfew] at HFW
    clear hfew
    go_wp2_with (first | (refine wpList_ld rfl _ _ rfl _ _ rfl _ HLC.out ?_) | (go_at_call 26; refine HFW.out.mono ?_; rintro e2 w2 ⟨rfl, hk⟩; have HS2 := Lib.hid (HS1.out.kept hk); clear hk HFW HLC HS1))
    go_ret
    exact ⟨rfl, HEND.out _ D (PH.le.refl _) HS2.out.drop⟩
  · rw [hfew] at HFW
    have HSM := Lib.hid ((few_sm hfew).mono (show 6 ≤ 1000000 by omega))
    clear hfew
    go_upto_region 8 with (first | (refine wpList_ld rfl _ _ rfl _ _ rfl _ HLC.out ?_) | (go_at_call 26; refine HFW.out.mono ?_; rintro e2 w2 ⟨rfl, hk⟩; have HS2 := Lib.hid (HS1.out.kept hk); clear hk HFW HLC HS1))
    have HWN := Lib.hid (Waits_nil o HS2.out)
    go_upto_region 9 with (first | (go_at_call 29; refine HWN.out.mono ?_; rintro e3 w3 ⟨rfl, hs3⟩; have HS3 := Lib.hid ((hs3.alloc cl0.cells.toArray tCl).swap); clear hs3 HWN HS2) | (refine wpList_store_new rfl _ _ _ rfl cl0.cells _ _ rfl rfl (by kernel_rfl) rfl (ClmE.one _) ?_))
    obtain ⟨W4, hW4, hs4⟩ := Sat.hide HS3.out
    rw [← hW4]
    clear hW4 HS3
    generalize w3.heap.size = bx at hs4 ⊢
    have HS := Lib.hid hs4
    have HLC := Lib.hid (loadCl (blk_range (hs4.blk 0 rfl)))
    have HLX := Lib.hid (loadCl (x := cl0) (blk_range (hs4.blk 1 rfl)))
    have HALL := Lib.hid (show ∀ (w w' : World), Sat W D w [blk bc c.cells.toArray tCl, blk bx cl0.cells.toArray tCl] → Kept (fun _ => False) w w' → Sat W D w' [blk bc c.cells.toArray tCl, blk bx cl0.cells.toArray tCl] ∧ (loadVar tCl ⟨bc, 0, none⟩).run Tryz.prog w' = .ok (.agg c.cells.toArray) w' ∧ (loadVar tCl ⟨bx, 0, none⟩).run Tryz.prog w' = .ok (.agg cl0.cells.toArray) w' from
      fun _ _ hs hk => ⟨hs.kept hk, loadCl (blk_range ((hs.kept hk).blk 0 rfl)), loadCl (x := cl0) (blk_range ((hs.kept hk).blk 1 rfl))⟩)
    clear hs4
    go_upto_region 10 with (first
      | (refine wpList_ld rfl _ _ rfl _ _ rfl _ HLC.out ?_)
      | (refine wpList_ldw rfl _ _ rfl _ _ rfl _ HLC.out ?_)
      | (refine wpList_ldw rfl _ _ rfl _ _ rfl _ HLX.out ?_)
      | (refine wpList_build_cl0w rfl rfl ?_)
      | (refine wpList_build_onew rfl _ _ rfl tCl i0 _ c.cells rfl Tryz.underlying49 HI.out.1 HI.out.2.1 (HI.out.2.2.1.trans rfl) (by rw [ClmE.len]; decide) (by rw [ClmE.len]; decide) ?_)
      | (go_at_call 40; refine (Ask_nil o c _).mono ?_; rintro e5 w5 ⟨rfl, hk⟩; replace HS := Lib.hid (HALL.out _ _ HS.out hk); replace HLC := Lib.hid HS.out.2.1; replace HLX := Lib.hid HS.out.2.2; replace HS := Lib.hid HS.out.1; clear hk)
      | (go_at_call 38; refine (Try_nil o c _).mono ?_; rintro e6 w6 ⟨rfl, hk⟩; replace HS := Lib.hid (HALL.out _ _ HS.out hk); replace HLC := Lib.hid HS.out.2.1; replace HLX := Lib.hid HS.out.2.2; replace HS := Lib.hid HS.out.1; clear hk)
      | (go_at_call 23; refine (Holds_nil o _).mono ?_; rintro e7 w7 ⟨rfl, hk⟩; replace HS := Lib.hid (HALL.out _ _ HS.out hk); replace HLC := Lib.hid HS.out.2.1; replace HLX := Lib.hid HS.out.2.2; replace HS := Lib.hid HS.out.1; clear hk)
      | (go_at_call 31; refine (rEqual_eq (x := cl0) (y := cl0) ((cl0_ok D).rd HS.out) ((cl0_ok D).rd HS.out) rfl).mono ?_; rintro e8 w8 ⟨rfl, hk⟩; replace HS := Lib.hid (HALL.out _ _ HS.out hk); replace HLC := Lib.hid HS.out.2.1; replace HLX := Lib.hid HS.out.2.2; replace HS := Lib.hid HS.out.1; clear hk)
      | (go_at_call 34; refine (Blockers_nil o _).mono ?_; rintro e9 w9 ⟨rfl, hk⟩; replace HS := Lib.hid (HALL.out _ _ HS.out hk); replace HLC := Lib.hid HS.out.2.1; replace HLX := Lib.hid HS.out.2.2; replace HS := Lib.hid HS.out.1; clear hk)
      | (go_at_call 41; refine (Drop_nil o _ _ _ _).mono ?_; rintro e10 w10 ⟨rfl, hk⟩; replace HS := Lib.hid (HALL.out _ _ HS.out (((Kept.refl (fun _ => False) _).alloc _).trans hk (fun _ h => h.elim))); replace HLC := Lib.hid HS.out.2.1; replace HLX := Lib.hid HS.out.2.2; replace HS := Lib.hid HS.out.1; clear hk)
      | (go_at_call 37; refine (Clear_nil o _).mono ?_; rintro e11 w11 ⟨rfl, hk⟩; replace HS := Lib.hid (HALL.out _ _ HS.out hk); replace HLC := Lib.hid HS.out.2.1; replace HLX := Lib.hid HS.out.2.2; replace HS := Lib.hid HS.out.1; clear hk)
      | (go_at_call 36; refine (Leave_nil o _).mono ?_; rintro e12 w12 ⟨rfl, hk⟩; replace HS := Lib.hid (HALL.out _ _ HS.out hk); replace HLC := Lib.hid HS.out.2.1; replace HLX := Lib.hid HS.out.2.2; replace HS := Lib.hid HS.out.1; clear hk)
      | (go_at_call 28; refine (Len_nil _).mono ?_; rintro e13 w13 ⟨rfl, hk⟩; replace HS := Lib.hid (HALL.out _ _ HS.out hk); replace HLC := Lib.hid HS.out.2.1; replace HLX := Lib.hid HS.out.2.2; replace HS := Lib.hid HS.out.1; clear hk))
    have HNEW := Lib.hid (Claims_new HS.out)
    go_upto_region 11 with (go_at_call 25; refine HNEW.out.mono ?_; rintro e14 w14 ⟨q, rfl, hs14⟩; have HS14 := Lib.hid hs14; clear hs14 HNEW)
    have HLD := Lib.hid (loadCl (blk_range (HS14.out.blk 1 rfl)))
    have HA := Lib.hid (Ask_C (Q := ⟨[], []⟩) o c HE.out HOK.out HSM.out sm_nil (by decide) (by decide) HS14.out)
    rw [none_ask] at HA
    clear HLC HLX HALL HS
    go_wp2_with (first
      | (refine wpList_ldw rfl _ _ rfl _ _ rfl _ HLD.out ?_)
      | (go_at_call 40; refine HA.out.mono ?_; rintro e15 w15 ⟨D15, rfl, hle, hs15⟩; have HLE := Lib.hid hle; have HH := Lib.hid (Holds_C (Q := ⟨[⟨o, c.c, false⟩], []⟩) o (show (1 : Nat) ≤ 100000 by decide) hs15); rw [none_holds] at HH; clear hle hs15 HA HLD HS14)
      | (go_at_call 23; refine HH.out.mono ?_; rintro e16 w16 ⟨v16, rfl, hs16⟩; obtain ⟨cs16, hcs16, hok16, hs17⟩ := clmsOpen hs16; have hl16 := congrArg List.length hcs16; rw [List.length_map] at hl16; obtain ⟨a16, c16, rfl⟩ : ∃ a k, v16 = .slice a 1 k := (by have := hs17.own_shape; rw [hl16] at this; exact this); have HS17 := Lib.hid hs16.drop; have HLN := Lib.hid (Len_C (Q := ⟨[⟨o, c.c, false⟩], []⟩) (show (1 + 0 : Nat) ≤ 1000000 by decide) hs16.drop); clear hs16 hs17 hcs16 hok16 hl16 HH)
      | (go_at_call 28; refine HLN.out.mono ?_; rintro e18 w18 ⟨rfl, hk⟩; have HS18 := Lib.hid (HS17.out.kept hk); clear hk HLN HS17))
    go_ret
    exact ⟨rfl, HEND.out _ D15 HLE.out HS18.out.drop.drop.drop⟩
end Go.Proofs.YtkdinhlmghfpeaaGreatDoor
