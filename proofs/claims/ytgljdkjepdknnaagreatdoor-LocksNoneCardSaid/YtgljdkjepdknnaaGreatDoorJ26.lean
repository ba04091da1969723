/- Openings of a claim, with the bounds of its strings. (printed by genfopenf.py) -/
import Derived.Test.YtgljdkjepdknnaaGreatDoorJ22
import Derived.Test.YtgljdkjepdknnaaGreatDoorJ24
namespace Go.Proofs.YtgljdkjepdknnaaGreatDoor
open Go.ChangeShapes Go.WideShapes Go.ChangeAt Go.RowKit Go.Deep
set_option maxRecDepth 100000
set_option linter.unusedSimpArgs false

section
variable {H : Type} {enc : TypeId × Value → H} {w : World} {base : Nat} {spare : Nat → Bool} {held : Bool}
theorem openF_val {fuel : Nat} {cs : List Value} {x : DataW H × List MemPlace} (h : DataW.trod enc Tryz.prog w base spare held fuel 31 cs = some x) : ∃ v : Val, cs = v.cells ∧ v.fits := by
  obtain ⟨y0, y1, y2, n, _, hl, t0, t1, t2⟩ := struct3F Tryz.underlying31 h
  rw [cellsValO] at hl
  simp only [cellsBoolO, cellsI64O, cellsStrO] at t0 t1 t2
  match cs, hl with
  | [c0, c1, c2], _ =>
    simp only [List.drop, List.take] at t0 t1 t2
    obtain ⟨b, hb, _⟩ := DataW.trod_bool Tryz.underlying4 t0
    obtain ⟨z, hz, _, wz⟩ := DataW.trod_int Tryz.underlying2 t1
    obtain ⟨s, hs, _, ws⟩ := DataW.trod_string Tryz.underlying9 t2
    simp only [List.cons.injEq, and_true] at hb hz hs
    subst hb hz hs
    exact ⟨⟨b, z, s⟩, rfl, ws⟩
theorem openF_pred : ∀ (fuel : Nat) {cs : List Value} {x : DataW H × List MemPlace}, DataW.trod enc Tryz.prog w base spare held fuel 35 cs = some x → ∃ e : PredE, cs = e.cells ∧ PredsRd w (.slice e.la e.ln e.lc) e.subs ∧ PredFit e.p := by
  intro fuel
  induction fuel using Nat.strongRecOn with
  | _ fuel ih =>
    intro cs x h
    obtain ⟨y0, y1, y2, y3, y4, n, hn, hl, t0, t1, t2, t3, t4⟩ := struct5F Tryz.underlying35 h
    rw [cellsPrO] at hl
    simp only [cellsIntO, cellsValO, cellsPrsO] at t0 t1 t2 t3 t4
    match cs, hl with
    | [c0, c1, c2, c3, c4, c5, c6, c7, c8], _ =>
      simp only [List.drop, List.take] at t0 t1 t2 t3 t4
      obtain ⟨z0, hz0, _, _⟩ := DataW.trod_int Tryz.underlying3 t0
      obtain ⟨z1, hz1, _, _⟩ := DataW.trod_int Tryz.underlying3 t1
      obtain ⟨v, hv, fv⟩ := openF_val t2
      obtain ⟨u, hu, fu⟩ := openF_val t3
      obtain ⟨s, es, hs, hrd, hes⟩ := open_RdF (f := PredE.cells) (G := fun e : PredE => PredsRd w (.slice e.la e.ln e.lc) e.subs ∧ PredFit e.p) Tryz.underlying33 cellsPrO (by omega) PredE.len (fun m hm cs d hd => ih m (by omega) hd) t4
      simp only [List.cons.injEq, and_true] at hz0 hz1 hs
      simp only [Val.cells, List.cons.injEq, and_true] at hv hu
      obtain ⟨rfl, rfl, rfl⟩ := hv
      obtain ⟨rfl, rfl, rfl⟩ := hu
      subst hz0 hz1 hs
      obtain ⟨_, _, la, lc, rfl, _⟩ := id hrd
      exact ⟨⟨z0, z1, v, u, la, es.length, lc, es.map PredE.p⟩, rfl, .mk _ es hrd (fun e he => (hes e he).1), .mk z0 z1 v u _ fv fu (fun q hq => by obtain ⟨e, he, rfl⟩ := List.mem_map.1 hq; exact (hes e he).2)⟩
theorem openF_row {fuel : Nat} {cs : List Value} {x : DataW H × List MemPlace} (h : DataW.trod enc Tryz.prog w base spare held fuel 91 cs = some x) : ∃ (v : Value) (r : List Val), cs = [v] ∧ RowRd w v r ∧ ∀ a ∈ r, a.fits := by
  obtain ⟨v, r, hc, hrd, hf⟩ := open_RdF (f := Val.cells) (G := fun a : Val => a.fits) Tryz.underlying91 cellsValO (by omega) Val.len (fun m hm cs d hd => by exact openF_val hd) h
  exact ⟨v, r, hc, hrd, hf⟩
theorem openF_rows {fuel : Nat} {cs : List Value} {x : DataW H × List MemPlace} (h : DataW.trod enc Tryz.prog w base spare held fuel 32 cs = some x) : ∃ (v : Value) (rs : List (List Val)), cs = [v] ∧ RowsRd w v rs ∧ ∀ r ∈ rs, ∀ a ∈ r, a.fits := by
  obtain ⟨v, l, hc, hrd, hl⟩ := open_RdF (f := fun a : Value × List Val => [a.1]) (G := fun a : Value × List Val => RowRd w a.1 a.2 ∧ ∀ z ∈ a.2, z.fits) Tryz.underlying32 cellsRowO (by omega) (fun _ => rfl) (fun m hm cs d hd => by obtain ⟨v, r, he, hr⟩ := openF_row hd; exact ⟨(v, r), he, hr⟩) h
  rw [flat_fst] at hrd
  refine ⟨v, l.map Prod.snd, hc, ⟨l.map Prod.fst, by simp, by simpa using hrd, fun i u r hu hr => ?_⟩, fun r hr => by obtain ⟨a, ha, rfl⟩ := List.mem_map.1 hr; exact (hl a ha).2⟩
  rw [List.getElem?_map] at hu hr
  cases hx : l[i]? with
  | none => rw [hx] at hu; cases hu
  | some a =>
    rw [hx] at hu hr
    obtain rfl := Option.some.inj hu
    obtain rfl := Option.some.inj hr
    exact (hl a (List.mem_of_getElem? hx)).1
theorem openF_claim {fuel : Nat} {cs : List Value} {x : DataW H × List MemPlace} (h : DataW.trod enc Tryz.prog w base spare held fuel 37 cs = some x) : ∃ c : ClmE, cs = c.cells ∧ RdCl w c ∧ ClmFit c.c := by
  obtain ⟨y0, y1, y2, y3, y4, y5, n, hn, hl, t0, t1, t2, t3, t4, t5⟩ := struct6F Tryz.underlying37 h
  rw [cellsClO] at hl
  simp only [cellsIntO, cellsValO, cellsModeO, cellsRowsO, cellsPrO] at t0 t1 t2 t3 t4 t5
  match cs, hl with
  | [c0, c1, c2, c3, c4, c5, c6, c7, c8, c9, c10, c11, c12, c13, c14, c15], _ =>
    simp only [List.drop, List.take] at t0 t1 t2 t3 t4 t5
    obtain ⟨z0, hz0, _, _⟩ := DataW.trod_int Tryz.underlying3 t0
    obtain ⟨z1, hz1, _, _⟩ := DataW.trod_int Tryz.underlying3 t1
    obtain ⟨z2, hz2, _, _⟩ := DataW.trod_int Tryz.underlying29 t2
    obtain ⟨v, hv, _⟩ := openF_val t3
    obtain ⟨s, rs, hs, hrd, hrf⟩ := openF_rows t4
    obtain ⟨p, hp, hpr, hpf⟩ := openF_pred _ t5
    simp only [List.cons.injEq, and_true] at hz0 hz1 hz2 hs
    simp only [Val.cells, List.cons.injEq, and_true] at hv
    simp only [PredE.cells, List.cons.injEq, and_true] at hp
    obtain ⟨rfl, rfl, rfl⟩ := hv
    obtain ⟨rfl, rfl, rfl, rfl, rfl, rfl, rfl, rfl, rfl⟩ := hp
    subst hz0 hz1 hz2 hs
    obtain ⟨hs, h1, ⟨_, _, ia, ic, rfl, _⟩, _⟩ := id hrd
    exact ⟨⟨z0, z1, z2, v, ia, rs.length, ic, rs, p⟩, rfl, ⟨hrd, hpr⟩, hpf, hrf⟩
end
end Go.Proofs.YtgljdkjepdknnaaGreatDoor
