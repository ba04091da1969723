/- Joined texts: A law's arguments of these kinds, opened: rows of numbers; the table of modes. Of no program: what reads as plain data (bools, integers, strings, structs and arrays of these) holds just the cells that the data say. Of no one law: what a law's row asks behind the call, from three facts: it returned true, nothing that was there has turned, the arguments' types can be read. -/
import Derived.Test.YtgljdkjepdknnaaGreatDoorJ5
import Derived.Test.YtgljdkjepdknnaaGreatDoorJ1
import Derived.Test.YtgljdkjepdknnaaGreatDoorJ7
import Derived.OpenShut
import Derived.Test.YtgljdkjepdknnaaGreatDoorRows
import Derived.JoinedCond
import Derived.Deep.DeepHandedRow
import Derived.Deep.CondSized
/- A law's arguments of these kinds, opened: rows of numbers; the table of modes. -/
namespace Go.Proofs.YtgljdkjepdknnaaGreatDoor
open Go.ChangeShapes Go.WideShapes Go.ChangeAt Go.RowKit

section
variable {H : Type} {enc : TypeId × Value → H} {w : World} {base : Nat} {spare : Nat → Bool} {held : Bool}
theorem flat_one (l : List Int) : l.flatMap (fun n => [Value.int .i64 n]) = l.map (Value.int .i64) := by
  induction l with
  | nil => rfl
  | cons x l ih => rw [List.flatMap_cons, ih]; rfl
theorem open_intsR {fuel : Nat} {cs : List Value} {x : DataW H × List MemPlace} (hsp : ∀ b, spare b = true) (h : DataW.trod enc Tryz.prog w base spare held fuel 42 cs = some x) :
    ∃ (v : Value) (l : List Int), cs = [v] ∧ IntsRd w v l := by
  obtain ⟨v, l, rfl, hrd, hx⟩ := open_Rd (f := fun n : Int => [Value.int .i64 n]) (G := fun _ _ => True) (size := 1) Tryz.underlying42 (by kernel_rfl) (by omega) (fun _ => rfl) (fun _ _ _ _ hd => by
    obtain ⟨z, hz, _, _⟩ := DataW.trod_int Tryz.underlying3 hd
    exact ⟨z, hz, trivial⟩) hsp h
  rw [flat_one] at hrd
  exact ⟨v, l, rfl, hrd⟩
end
theorem envD_of {W : World} (h : Tb W) : EnvD (heapOf W) := by
  have h0 := h 0 _ rfl
  unfold World.cell? at h0
  split at h0
  · rename_i c t fr hb
    refine ⟨c, t, fr, hb, fun i x hx => ?_⟩
    have h1 := h i x hx
    rw [cell_of_row W _ i c t fr hb] at h1
    exact h1
  · cases h0
end Go.Proofs.YtgljdkjepdknnaaGreatDoor

/- Of no program: what reads as plain data (bools, integers, strings, structs and arrays of these) holds just the cells that the data say. -/
namespace Go.Proofs.YtgljdkjepdknnaaGreatDoor
open Go.ChangeShapes Go.WideShapes Go.ChangeAt Go.RowKit

def seqCells (P : Program) (u : TypeId → DataW Unit → Option (List Value)) : Nat → List (Nat × TypeId) → List (DataW Unit) → Option (List Value)
  | _, [], [] => some []
  | off, x :: fs, d :: ds => if x.1 = off then (u x.2 d).bind fun vs => if vs.length = P.cellsOf x.2 then (seqCells P u (off + vs.length) fs ds).map (vs ++ ·) else none else none
  | _, _, _ => none

def unlay (P : Program) : Nat → TypeId → DataW Unit → Option (List Value)
  | 0, _, _ => none
  | n + 1, t, d => match P.underlying t, d with
    | some .bool, .lit (.bool b) => some [.bool b]
    | some (.int k), .lit (.int _ z) => some [.int k z]
    | some .string, .lit (.string l) => some [.string ⟨l.toArray⟩]
    | some (.struct fs), .agg ps => seqCells P (unlay P n) 0 (fs.toList.map fun f => (f.offset, f.type)) ps
    | some (.array m e), .agg ps => seqCells P (unlay P n) 0 ((List.range m).map fun i => (i * P.cellsOf e, e)) ps
    | _, _ => none

theorem seqCells_eq {P : Program} {u : TypeId → DataW Unit → Option (List Value)} {cs : List Value} {T : TypeId → List Value → Option (DataW Unit × List MemPlace)}
    (hu : ∀ t d vs c p, u t d = some vs → T t c = some (d, p) → c = vs) :
    ∀ (fs : List (Nat × TypeId)) (off : Nat) (xs : List (DataW Unit × List MemPlace)) (vs : List Value), seqCells P u off fs (xs.map (·.1)) = some vs →
      (∀ (i : Nat) (x : Nat × TypeId), fs[i]? = some x → T x.2 ((cs.drop x.1).take (P.cellsOf x.2)) = xs[i]?) → (cs.drop off).take vs.length = vs
  | [], off, [], vs, h, _ => by simp [seqCells] at h; subst h; simp
  | [], _, _ :: _, _, h, _ => by simp [seqCells] at h
  | _ :: _, _, [], _, h, _ => by simp [seqCells] at h
  | (o, t) :: fs, off, y :: xs, vs, h, hT => by
    simp only [List.map_cons, seqCells] at h
    split at h
    · rename_i ho
      obtain ⟨v1, h1, h2⟩ := Option.bind_eq_some_iff.1 h
      split at h2
      · rename_i hl
        obtain ⟨v2, h3, rfl⟩ := Option.map_eq_some_iff.1 h2
        have e1 := hT 0 (o, t) rfl
        have e2 := hu t y.1 v1 _ y.2 h1 e1
        dsimp only at ho hl e2
        subst ho
        rw [← hl] at e2
        have ih := seqCells_eq hu fs (o + v1.length) xs v2 h3 (fun i x hi => hT (i + 1) x hi)
        rw [List.length_append, List.take_add, e2, List.drop_drop, ih]
      · cases h2
    · cases h

theorem unlay_eq {P : Program} {w : World} {enc : TypeId × Value → Unit} {base : Nat} {sp : Nat → Bool} {held : Bool} :
    ∀ (n : Nat) (fuel : Nat) (t : TypeId) (d : DataW Unit) (vs cs : List Value) (p : List MemPlace), unlay P n t d = some vs → vs.length = P.cellsOf t → DataW.trod enc P w base sp held fuel t cs = some (d, p) → cs = vs
  | 0, _, _, _, _, _, _, h, _, _ => by simp [unlay] at h
  | n + 1, fuel, t, d, vs, cs, p, h, hlen, hd => by
    have hin : ∀ fuel t d vs c p, (unlay P n t d).bind (fun vs => if vs.length = P.cellsOf t then some vs else none) = some vs → DataW.trod enc P w base sp held fuel t c = some (d, p) → c = vs := by
      intro fuel t d vs c p hx hy
      obtain ⟨v, h1, h2⟩ := Option.bind_eq_some_iff.1 hx
      split at h2
      · rename_i hl
        obtain rfl := Option.some.inj h2
        exact unlay_eq n fuel t d v c p h1 hl hy
      · cases h2
    have hseq : ∀ (fs : List (Nat × TypeId)) (off : Nat) (ds : List (DataW Unit)) (vs : List Value), seqCells P (unlay P n) off fs ds = some vs →
        seqCells P (fun t d => (unlay P n t d).bind (fun vs => if vs.length = P.cellsOf t then some vs else none)) off fs ds = some vs := by
      intro fs
      induction fs with
      | nil => intro off ds vs h; cases ds with
        | nil => exact h
        | cons d ds => simp [seqCells] at h
      | cons x fs ih =>
        intro off ds vs h
        cases ds with
        | nil => simp [seqCells] at h
        | cons d ds =>
          simp only [seqCells] at h ⊢
          split at h
          · rename_i ho
            rw [if_pos ho]
            obtain ⟨v1, h1, h2⟩ := Option.bind_eq_some_iff.1 h
            split at h2
            · rename_i hl
              obtain ⟨v2, h3, rfl⟩ := Option.map_eq_some_iff.1 h2
              simp [h1, hl]
              rw [← hl]
              exact ih _ _ _ h3
            · cases h2
          · cases h
    unfold unlay at h
    split at h
    · rename_i hu
      obtain ⟨b, rfl, hx⟩ := DataW.trod_bool hu hd
      cases hx; cases h; rfl
    · rename_i hu
      obtain ⟨z, rfl, hx, _⟩ := DataW.trod_int hu hd
      cases hx; cases h; rfl
    · rename_i l hu
      obtain ⟨s, rfl, hx, _⟩ := DataW.trod_string hu hd
      simp only [Prod.mk.injEq, DataW.lit.injEq, Lit.string.injEq] at hx
      cases h
      rw [hx.1]
    · rename_i fs ps hu
      obtain ⟨xs, m, rfl, hx, hl, hxl, hT⟩ := DataW.trod_struct hu hd
      simp only [Prod.mk.injEq, DataW.agg.injEq] at hx
      obtain ⟨rfl, _⟩ := hx
      have := seqCells_eq (P := P) (cs := cs) (T := fun t c => DataW.trod enc P w base sp held m t c) (fun t d vs c p a b => hin m t d vs c p a b) _ 0 xs vs (hseq _ _ _ _ h) (by
        intro i x hi
        simp only [List.getElem?_map, Option.map_eq_some_iff] at hi
        obtain ⟨f, hf, rfl⟩ := hi
        exact hT i f (by simpa using hf))
      rw [List.drop_zero, hlen, ← hl, List.take_length] at this
      exact this
    · rename_i m' e ps hu
      obtain ⟨xs, m, rfl, hx, hl, hxl, hT⟩ := DataW.trod_array hu hd
      simp only [Prod.mk.injEq, DataW.agg.injEq] at hx
      obtain ⟨rfl, _⟩ := hx
      have := seqCells_eq (P := P) (cs := cs) (T := fun t c => DataW.trod enc P w base sp held m t c) (fun t d vs c p a b => hin m t d vs c p a b) _ 0 xs vs (hseq _ _ _ _ h) (by
        intro i x hi
        simp only [List.getElem?_map, Option.map_eq_some_iff] at hi
        obtain ⟨j, hj, rfl⟩ := hi
        rw [List.getElem?_eq_some_iff] at hj
        obtain ⟨hj1, hj2⟩ := hj
        simp at hj1 hj2
        subst hj2
        exact hT _ hj1)
      rw [List.drop_zero, hlen, ← hl, List.take_length] at this
      exact this
    · cases h

/-- A listed variable of plain data holds just these cells. -/
theorem laid_cells {P : Program} {W : World} {name : String} {d : DataW Unit} {rest : List (String × DataW Unit)} {g : Nat} {t : TypeId} {vs : List Value} (n : Nat)
    (hg : P.globalNamed name = some g) (hty : (P.globals[g]?).map (·.type) = some t) (hun : unlay P n t d = some vs) (hlen : vs.length = P.cellsOf t)
    (h : laidMet P ((name, d) :: rest) W) : ∀ i x, vs[i]? = some x → W.cell? ⟨g, i, none⟩ = some x := by
  obtain ⟨ps, ⟨g', t', cs, fuel, p, q, hg', ht', hvar, hd, _, _⟩, _⟩ := h
  obtain rfl := Option.some.inj (hg.symm.trans hg')
  obtain rfl := Option.some.inj (hty.symm.trans ht')
  have := unlay_eq n fuel t d vs cs.toList p hun hlen hd
  intro i x hx
  rw [World.var?_cell hg hvar i, ← hx, ← this]
  simp
/-- a listed variable's block is there -/
theorem laid_block {P : Program} {W : World} {name : String} {d : DataW Unit} {rest : List (String × DataW Unit)} {g : Nat}
    (hg : P.globalNamed name = some g) (h : laidMet P ((name, d) :: rest) W) : g < W.heap.size := by
  obtain ⟨ps, ⟨g', t', cs, fuel, p, q, hg', ht', hvar, hd, _, _⟩, _⟩ := h
  simp only [World.var?, hg, Option.bind_some] at hvar
  split at hvar
  · rename_i hh
    exact (Array.getElem?_eq_some_iff.1 hh).1
  · cases hvar
end Go.Proofs.YtgljdkjepdknnaaGreatDoor

/- Of no one law: what a law's row asks behind the call, from three facts: it returned true, nothing that was there has turned, the arguments' types can be read. -/
namespace Go.Proofs.YtgljdkjepdknnaaGreatDoor
open Go.ChangeShapes Go.WideShapes Go.ChangeAt Go.RowKit

theorem trodAll_below {H : Type} {enc : TypeId × Value → H} {P : Program} (hl : laidOutB P = true) {W W' : World} (hb : Below W.heap.size W W') :
    ∀ (ts : List TypeId) (vs : List Value) (ds : List (DataW H)) (ps : List MemPlace), (∀ t ∈ ts, P.readableRec t = true ∧ t < P.types.size) → (∀ x ∈ ps, x.block < W.heap.size) →
      DataW.TrodAll enc P W 0 (fun _ => true) true ts vs ds ps → DataW.TrodAll enc P W' 0 (fun b => decide (b < W.heap.size)) true ts vs ds ps
  | [], [], [], ps, _, _, h => h
  | t :: ts, v :: vs, d :: ds, ps, ht, hp, h => by
    obtain ⟨p, q, h1, h2, rfl⟩ := h
    exact ⟨p, q, Below.trod hl (ht t (by simp)).1 (ht t (by simp)).2 h1 hb (fun x hx => hp x (by simp [hx])),
      trodAll_below hl hb ts vs ds q (fun t h => ht t (by simp [h])) (fun x hx => hp x (by simp [hx])) h2, rfl⟩
  | [], [], _ :: _, _, _, _, h => h.elim
  | [], _ :: _, [], _, _, _, h => h.elim
  | [], _ :: _, _ :: _, _, _, _, h => h.elim
  | _ :: _, [], [], _, _, _, h => h.elim
  | _ :: _, [], _ :: _, _, _, _, h => h.elim
  | _ :: _, _ :: _, [], _, _, _, h => h.elim

/-- A law's post: it returned true; below the heap's size nothing has turned. -/
theorem law_post {H : Type} {enc : TypeId × Value → H} {P : Program} {f : Func} {s : ChangeSpec} {W W' : World} {args : Array Value} {ds gs : List (DataW H)} {before : List MemPlace} {tb : TypeId}
    (hl : laidOutB P = true) (hts : f.params.toList.all (fun t => P.readableRec t && decide (t < P.types.size)) = true) (hrt : f.resultTypes = #[tb]) (htb : P.underlying tb = some .bool) (hv : s.vars = [])
    (hW : DataW.Whole enc P f.params.toList s.vars false W args.toList ds gs before)
    (hr : (s.fn H (ds ++ gs)).results = [.lit (.bool true)]) (ha : (s.fn H (ds ++ gs)).args = ds) (hvs : (s.fn H (ds ++ gs)).vars = [])
    (hb : Below W.heap.size W W') : s.post enc P f false true false false W args (.bool true) W' := by
  have hlt := hW.lt
  have hW' := hW
  obtain ⟨p, q, hA, hV, rfl, hfz, hnd⟩ := hW
  refine ⟨ds, gs, p ++ q, [], p, [], hW', ?_, ?_, ?_, hb.frame _, fun h => by cases h⟩
  · rw [hr, hrt]
    exact ⟨[], [], ⟨1, by simp [DataW.trod, Value.cells, htb]⟩, rfl, rfl⟩
  · rw [ha]
    refine trodAll_below hl hb _ _ _ _ (fun t ht => ?_) (fun x hx => hlt x (by simp [hx])) hA
    have := List.all_eq_true.1 hts t ht
    simpa using this
  · rw [hv, hvs]; rfl
end Go.Proofs.YtgljdkjepdknnaaGreatDoor
