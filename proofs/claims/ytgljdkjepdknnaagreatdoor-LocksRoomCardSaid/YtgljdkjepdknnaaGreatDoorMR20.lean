/- Joined texts: Claims among a law's arguments, opened. A queue that is none has nothing (the law FifoNone). -/
import Derived.Test.YtgljdkjepdknnaaGreatDoorMR18
import Derived.Test.YtgljdkjepdknnaaGreatDoorMR6
import Derived.Test.YtgljdkjepdknnaaGreatDoorMR17
import Derived.Test.YtgljdkjepdknnaaGreatDoorMR19
/- Claims among a law's arguments, opened. -/
namespace Go.Proofs.YtgljdkjepdknnaaGreatDoor
open Go.ChangeShapes Go.WideShapes Go.ChangeAt Go.RowKit Go.Deep
set_option maxRecDepth 100000
set_option linter.unusedSimpArgs false

instance : Inhabited PredE := ⟨⟨0, 0, ⟨false, 0, ⟨#[]⟩⟩, ⟨false, 0, ⟨#[]⟩⟩, none, 0, 0, []⟩⟩
instance : Inhabited ClmE := ⟨⟨0, 0, 0, ⟨false, 0, ⟨#[]⟩⟩, none, 0, 0, [], default⟩⟩
instance : Inhabited (Value × List Val) := ⟨(.int .i64 0, [])⟩
section
variable {H : Type} {enc : TypeId × Value → H} {P : Program} {w : World} {base : Nat} {spare : Nat → Bool} {held : Bool}
/-- a slice of elements, each of which is f's cells; the elements are opened with less fuel -/
theorem open_RdF {α : Type} [Inhabited α] {f : α → List Value} {G : α → Prop} {size : Nat} {t e : TypeId} (ht : P.underlying t = some (.slice e)) (hsz : P.cellsOf e = size) (hpos : 0 < size) (hf : ∀ a, (f a).length = size)
  {fuel : Nat} (each : ∀ n, fuel = n + 1 → ∀ cs d, DataW.trod enc P w base spare held n e cs = some d → ∃ a : α, cs = f a ∧ G a)
  {cs : List Value} {x : DataW H × List MemPlace} (h : DataW.trod enc P w base spare held fuel t cs = some x) :
  ∃ (v : Value) (l : List α), cs = [v] ∧ Rd w size v l.length (l.flatMap f) ∧ ∀ a ∈ l, G a := by
 rcases DataW.trod_slice ht h with ⟨rfl, _⟩ | ⟨a, len, cap, elems, rest, n, hfu, rfl, _, hb, hl, hm, hlen, hel, _, _⟩
 ·exact ⟨_, [], rfl, Rd.nil _ _, fun a ha => by cases ha⟩
 ·rw [hsz] at hel
  obtain ⟨A, hA⟩ := choose_lt (α := α) (p := fun i b => w.cells? base (a.add (i * size)) size = some (f b) ∧ G b) (fun i (hi : i < len) => by
   have h1 := hel i hi
   rw [List.getElem?_eq_getElem (show i < elems.length by omega)] at h1
   obtain ⟨cs', h2, h3⟩ := Option.bind_eq_some_iff.1 h1
   obtain ⟨b, rfl, hg⟩ := each n hfu _ _ h3
   exact ⟨b, h2, hg⟩)
  have hlen : ((List.range len).map A).length = len := by simp
  have hget : ∀ i, i < len → ((List.range len).map A)[i]? = some (A i) := fun i hi => by simp [List.getElem?_map, List.getElem?_range hi]
  refine ⟨_, (List.range len).map A, rfl, ⟨by rw [flat_len hf], by rw [hlen]; omega, some a, cap, by rw [hlen], by rw [hlen]; omega, hm, fun h => by simp at h, ?_⟩, fun b hb => ?_⟩
  ·rw [hlen]
   by_cases h0 : len = 0
   ·exact .inl h0
   ·right
    obtain ⟨_, hl0, hc0⟩ := World.cells?_some (hA 0 (by omega)).1
    have h00 := hc0 0 hpos
    have hsome : ∃ u, (f (A 0))[0]? = some u := ⟨(f (A 0))[0]'(by rw [hf]; omega), List.getElem?_eq_getElem _⟩
    obtain ⟨u0, hu0⟩ := hsome
    rw [hu0] at h00
    obtain ⟨g, o, spot⟩ := a
    have hspot : spot = none := by simpa [Addr.add] using World.cell?_spot h00
    subst hspot
    refine ⟨g, o, rfl, fun j u hu => ?_⟩
    have hj : j < len * size := by
     have := (List.getElem?_eq_some_iff.1 hu).1
     rw [flat_len hf, hlen] at this
     exact this
    have hi : j / size < len := Nat.div_lt_of_lt_mul (by rw [Nat.mul_comm]; exact hj)
    have hr : j % size < size := Nat.mod_lt _ hpos
    have hjj : j / size * size + j % size = j := by rw [Nat.mul_comm]; exact Nat.div_add_mod j size
    obtain ⟨_, _, hc⟩ := World.cells?_some (hA _ hi).1
    have hu' : ∃ u', (f (A (j / size)))[j % size]? = some u' := ⟨(f (A (j / size)))[j % size]'(by rw [hf]; exact hr), List.getElem?_eq_getElem _⟩
    obtain ⟨u', hu'⟩ := hu'
    have := flat_get hf _ _ _ (hget _ hi) _ _ hu'
    rw [hjj, hu] at this
    obtain rfl := Option.some.inj this
    have h2 := hc _ hr
    rw [hu'] at h2
    rw [add_none, add_none, Nat.add_assoc, hjj] at h2
    exact h2
  ·obtain ⟨i, hi, rfl⟩ := List.mem_map.1 hb
   exact (hA i (by simpa using hi)).2
theorem struct5F {t : TypeId} {f0 f1 f2 f3 f4 : Field} {fuel : Nat} {cs : List Value} {x : DataW H × List MemPlace} (ht : P.underlying t = some (.struct #[f0, f1, f2, f3, f4])) (h : DataW.trod enc P w base spare held fuel t cs = some x) :
  ∃ y0 y1 y2 y3 y4 n, fuel = n + 1 ∧ cs.length = P.cellsOf t ∧ DataW.trod enc P w base spare held n f0.type ((cs.drop f0.offset).take (P.cellsOf f0.type)) = some y0 ∧ DataW.trod enc P w base spare held n f1.type ((cs.drop f1.offset).take (P.cellsOf f1.type)) = some y1 ∧
   DataW.trod enc P w base spare held n f2.type ((cs.drop f2.offset).take (P.cellsOf f2.type)) = some y2 ∧ DataW.trod enc P w base spare held n f3.type ((cs.drop f3.offset).take (P.cellsOf f3.type)) = some y3 ∧ DataW.trod enc P w base spare held n f4.type ((cs.drop f4.offset).take (P.cellsOf f4.type)) = some y4 := by
 obtain ⟨xs, n, hn, rfl, hl, hlen, hf⟩ := DataW.trod_struct ht h
 match xs, hlen with
 | [y0, y1, y2, y3, y4], _ => exact ⟨y0, y1, y2, y3, y4, n, hn, hl, by simpa using hf 0 f0 rfl, by simpa using hf 1 f1 rfl, by simpa using hf 2 f2 rfl, by simpa using hf 3 f3 rfl, by simpa using hf 4 f4 rfl⟩
theorem struct6F {t : TypeId} {f0 f1 f2 f3 f4 f5 : Field} {fuel : Nat} {cs : List Value} {x : DataW H × List MemPlace} (ht : P.underlying t = some (.struct #[f0, f1, f2, f3, f4, f5])) (h : DataW.trod enc P w base spare held fuel t cs = some x) :
  ∃ y0 y1 y2 y3 y4 y5 n, fuel = n + 1 ∧ cs.length = P.cellsOf t ∧ DataW.trod enc P w base spare held n f0.type ((cs.drop f0.offset).take (P.cellsOf f0.type)) = some y0 ∧ DataW.trod enc P w base spare held n f1.type ((cs.drop f1.offset).take (P.cellsOf f1.type)) = some y1 ∧
   DataW.trod enc P w base spare held n f2.type ((cs.drop f2.offset).take (P.cellsOf f2.type)) = some y2 ∧ DataW.trod enc P w base spare held n f3.type ((cs.drop f3.offset).take (P.cellsOf f3.type)) = some y3 ∧ DataW.trod enc P w base spare held n f4.type ((cs.drop f4.offset).take (P.cellsOf f4.type)) = some y4 ∧
   DataW.trod enc P w base spare held n f5.type ((cs.drop f5.offset).take (P.cellsOf f5.type)) = some y5 := by
 obtain ⟨xs, n, hn, rfl, hl, hlen, hf⟩ := DataW.trod_struct ht h
 match xs, hlen with
 | [y0, y1, y2, y3, y4, y5], _ => exact ⟨y0, y1, y2, y3, y4, y5, n, hn, hl, by simpa using hf 0 f0 rfl, by simpa using hf 1 f1 rfl, by simpa using hf 2 f2 rfl, by simpa using hf 3 f3 rfl, by simpa using hf 4 f4 rfl, by simpa using hf 5 f5 rfl⟩
theorem struct3F {t : TypeId} {f0 f1 f2 : Field} {fuel : Nat} {cs : List Value} {x : DataW H × List MemPlace} (ht : P.underlying t = some (.struct #[f0, f1, f2])) (h : DataW.trod enc P w base spare held fuel t cs = some x) :
  ∃ y0 y1 y2 n, fuel = n + 1 ∧ cs.length = P.cellsOf t ∧ DataW.trod enc P w base spare held n f0.type ((cs.drop f0.offset).take (P.cellsOf f0.type)) = some y0 ∧ DataW.trod enc P w base spare held n f1.type ((cs.drop f1.offset).take (P.cellsOf f1.type)) = some y1 ∧
   DataW.trod enc P w base spare held n f2.type ((cs.drop f2.offset).take (P.cellsOf f2.type)) = some y2 := by
 obtain ⟨xs, n, hn, rfl, hl, hlen, hf⟩ := DataW.trod_struct ht h
 match xs, hlen with
 | [y0, y1, y2], _ => exact ⟨y0, y1, y2, n, hn, hl, by simpa using hf 0 f0 rfl, by simpa using hf 1 f1 rfl, by simpa using hf 2 f2 rfl⟩
end
section
variable {H : Type} {enc : TypeId × Value → H} {w : World} {base : Nat} {spare : Nat → Bool} {held : Bool}
theorem cellsValO : Tryz.prog.cellsOf 31 = 3 := by kernel_rfl
theorem cellsIntO : Tryz.prog.cellsOf 3 = 1 := by kernel_rfl
theorem cellsModeO : Tryz.prog.cellsOf 29 = 1 := by kernel_rfl
theorem cellsI64O : Tryz.prog.cellsOf 2 = 1 := by kernel_rfl
theorem cellsBoolO : Tryz.prog.cellsOf 4 = 1 := by kernel_rfl
theorem cellsStrO : Tryz.prog.cellsOf 9 = 1 := by kernel_rfl
theorem cellsPrO : Tryz.prog.cellsOf 35 = 9 := by kernel_rfl
theorem cellsPrsO : Tryz.prog.cellsOf 33 = 1 := by kernel_rfl
theorem cellsRowO : Tryz.prog.cellsOf 91 = 1 := by kernel_rfl
theorem cellsRowsO : Tryz.prog.cellsOf 32 = 1 := by kernel_rfl
theorem cellsClO : Tryz.prog.cellsOf 37 = 16 := by kernel_rfl
theorem flat_fst (l : List (Value × List Val)) : l.flatMap (fun a => [a.1]) = l.map Prod.fst := by
 induction l with
 | nil => rfl
 | cons x l ih => rw [List.flatMap_cons, ih]; rfl
end
theorem PredsAt.of_rd {w : World} {v : Value} {l : List PredT} (h : PredsRd w v l) : PredsAt (heapOf w) v l := by
 induction h with
 | mk v es h _ ih => exact .mk v es (RdP.of_rd h (by omega)) ih
theorem RowsAt.of_rd {w : World} {v : Value} {rs : List (List Val)} (h : RowsRd w v rs) : RowsAt (heapOf w) v rs := by
 obtain ⟨hs, h1, h2, h3⟩ := h
 refine ⟨hs, h1, fun u hu => ?_, RdP.of_rd h2 (by omega), fun i u r a b => RdP.of_rd (h3 i u r a b) (by omega)⟩
 obtain ⟨i, hi, rfl⟩ := List.mem_iff_getElem.1 hu
 obtain ⟨_, _, _, _, hv, _⟩ := h3 i _ (rs[i]'(by omega)) (List.getElem?_eq_getElem hi) (List.getElem?_eq_getElem (by omega))
 rw [hv]
 rfl
theorem ClOk.of_rd {w : World} {x : ClmE} (h : RdCl w x) : ClOk (heapOf w) x := ⟨RowsAt.of_rd h.1, PredsAt.of_rd h.2⟩
end Go.Proofs.YtgljdkjepdknnaaGreatDoor

/- A queue that is none has nothing (the law FifoNone). -/
namespace Go.Proofs.YtgljdkjepdknnaaGreatDoor
open Go.ChangeShapes Go.WideShapes Go.ChangeAt Go.RowKit
set_option maxRecDepth 100000
set_option linter.unusedSimpArgs false

theorem run_build_cl0 (w : World) : (Instr.build tCl #[]).run Tryz.prog w = .ok (.agg cl0.cells.toArray) w := run_build w _ _ _ (by kernel_rfl)
theorem wpList_build_cl0w {w : World} {o : Oper} {a : Act} {ops : Array Oper} {rest : List Oper} {Q : Exit → Act → World → Prop} (hgd : Region.wanted o (yielded ops a.tmps) = true) (ho : o.op = .build tCl #[])
  (h : wpList Tryz.prog ops Q rest (a.put o.dst (.agg cl0.cells.toArray)) w) : wpList Tryz.prog ops Q (o :: rest) a w :=
 wpList_do hgd fun _ hK => by
  have hrun := run_build_cl0 w
  unfold Oper.wp execOp
  simp only [ho, List.map_toArray, List.map_nil, Sem.run_bind, Sem.run_pure, Result.andThen_ok, hrun]
  exact hK _ _ h
end Go.Proofs.YtgljdkjepdknnaaGreatDoor
