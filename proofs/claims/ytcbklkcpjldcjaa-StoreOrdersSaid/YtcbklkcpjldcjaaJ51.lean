/- What is shared by the walks of StoreRoom and StoreOrders: rows that a store told. -/
import Derived.Test.YtcbklkcpjldcjaaJ48
namespace Go.Proofs.Ytcbklkcpjldcjaa
open Go.ChangeShapes Go.WideShapes Go.ChangeAt Go.RowKit
set_option maxRecDepth 100000
set_option linter.unusedSimpArgs false

section
variable {w B : World} {D : PH} {l : List HP} {xs : List RowE} {x : RowE} {N cap i : Nat} {ao : Option Addr}
theorem rowsE_src (h : Rd w 1 (.slice ao N cap) N (xs.map RowE.v)) (hx : xs[i]? = some x) (hl : xs.length = N) : ∃ g og, ao = some ⟨g, og, none⟩ := by
  have hlt := (List.getElem?_eq_some_iff.1 hx).1
  rcases h.2.2 with ⟨_, _, hv, _, _, _, hc⟩
  cases hv
  rcases hc with h0 | ⟨g, o, hg, _⟩
  · omega
  · exact ⟨g, o, hg⟩
theorem rowsE_cell {g og : Nat} (h : Rd w 1 (.slice (some ⟨g, og, none⟩) N cap) N (xs.map RowE.v)) (hx : xs[i]? = some x) : w.cell? ⟨g, og + i, none⟩ = some x.v := by
  have hlt := (List.getElem?_eq_some_iff.1 hx).1
  rcases h.2.2 with ⟨_, _, hv, _, _, _, hcell⟩
  cases hv
  rcases hcell with h0 | ⟨_, _, hg, hc⟩
  · have := h.1
    rw [List.length_map] at this
    omega
  cases hg
  exact hc i _ (by rw [List.getElem?_map, hx]; rfl)
theorem rowE_rd (h : Sat B D w (group (xs.map rowP) :: l)) (hx : xs[i]? = some x) : RowRd w x.v x.row := by
  have h3 : (xs.map rowP)[i]? = some (rowP x) := by rw [List.getElem?_map, hx]; rfl
  exact (Sat.own (h.ungroup.perm ((perm_get _ i _ h3).append_right _)) 0 rfl).rd
theorem rowsE_rd {v : Value} (h : Sat B D w (ownS tR 1 v xs.length (xs.map RowE.v) :: group (xs.map rowP) :: l)) : RowsRd w v (xs.map RowE.row) := rowsP_rd (Sat.close_ex xs rfl h)
end
theorem rowsE_at {w : World} {es : List RowE} {x : RowE} {g og N cap rg rog xc i : Nat} {k : Val} (ho : Rd w 1 (.slice (some ⟨g, og, none⟩) N cap) N (es.map RowE.v)) (hr : RowRd w x.v x.row) (hx : es[i]? = some x) (hv : x.v = .slice (some ⟨rg, rog, none⟩) x.row.length xc) (hk : x.row[0]? = some k) :
    w.cell? ⟨g, og + i, none⟩ = some (.slice (some ⟨rg, rog, none⟩) x.row.length xc) ∧ w.cell? ⟨rg, rog, none⟩ = some (.bool k.t) ∧ w.cell? ⟨rg, rog + 1, none⟩ = some (.int .i64 k.n) ∧ w.cell? ⟨rg, rog + 2, none⟩ = some (.string k.s) := by
  have h1 := rowsE_cell ho hx
  rw [hv] at h1 hr
  exact ⟨h1, key0_cells hr hk⟩
theorem bare_bare (M : StM) : M.bare.bare = M.bare := by
  have h1 : ∀ m : TabM, bareT (bareT m) = bareT m := fun m => by
    unfold bareT
    rw [List.map_map]
    rfl
  unfold StM.bare
  dsimp only
  rw [List.map_map]
  have : bareT ∘ bareT = bareT := funext h1
  rw [this]
theorem bare_of {B w : World} {D : PH} {s n : Nat} {A : StM} {l : List HP} (h : Sat B D w (storeB s n A :: l)) : A.bare = A := by
  obtain ⟨M, rfl, _⟩ := bareOpen h
  exact bare_bare M
/-- a row that a store told -/
theorem scan_mem {n : Nat} {A : StM} {j : Nat} {sp : Spn} {r : List Val} (hI : StI n A) (hj : j < A.cols.length) (h : r ∈ scanA A (j : Int) sp) : ∃ (m : TabM) (q : Val × PlM), A.tabs[j]? = some m ∧ q ∈ m ∧ q.2.kept = false ∧ q.2.row = r ∧ spanIn sp q.1 = true := by
  have hl := hI.len
  have hm : A.tabs[j]? = some (A.tabs[j]'(by omega)) := List.getElem?_eq_getElem _
  have h2 := tab_at hj hm
  unfold scanA at h
  rw [h2.2] at h
  obtain ⟨q, hq, hr⟩ := List.mem_map.1 h
  obtain ⟨hq1, hq2⟩ := List.mem_filter.1 hq
  rw [Bool.and_eq_true] at hq2
  exact ⟨_, q, hm, hq1, by simpa using hq2.2, hr, hq2.1⟩
theorem room_view {n : Nat} {A : StM} {j : Nat} {r : List Val} (hI : StI n A) (hb : A.bare = A) (hj : j < A.cols.length) (h : r ∈ scanA A (j : Int) spn0) :
    ∃ (k : Val) (A1 : StM), r[0]? = some k ∧ 1 ≤ r.length ∧ gotM A (j : Int) k = true ∧ grow A (j : Int) k = r ∧ A.rmv (j : Int) k = (A1, 0) ∧ StI (n + 1) A1 ∧ gotM A1 (j : Int) k = false ∧ A1.rst (j : Int) r (gnum A (j : Int) k) = (A, 0) ∧ StI (n + 2) A := by
  obtain ⟨m, q, hm, hq, hk, rfl, _⟩ := scan_mem hI hj h
  obtain ⟨g1, g2, g3, g4, g5, g6⟩ := back_law hI hb hm hj hq hk
  have i1 := hI.rmv (j : Int) q.1
  generalize hX : A.rmv (j : Int) q.1 = X at *
  obtain ⟨A1, e⟩ := X
  dsimp only at *
  subst g4
  refine ⟨q.1, A1, g1, ?_, g2, g3, hX, i1, g5, g6, hI.more (by omega)⟩
  have := (List.getElem?_eq_some_iff.1 g1).1
  omega
theorem cnt_sum : ∀ (ms : List TabM), (ms.map cnt).sum ≤ (ms.map List.length).sum
  | [] => Nat.le_refl _
  | m :: ms => by
    have h1 := cnt_sum ms
    have h2 := cnt_le m
    simp only [List.map_cons, List.sum_cons]
    omega
theorem sum_take_succ {L : List TabM} {j : Nat} {m : TabM} (h : L[j]? = some m) : ((L.take (j + 1)).map cnt).sum = ((L.take j).map cnt).sum + cnt m := by
  rw [List.take_add_one, h, List.map_append, List.sum_append]
  simp
theorem sum_take_le (L : List TabM) (j : Nat) : ((L.take j).map cnt).sum ≤ (L.map cnt).sum := by
  conv => rhs; rw [← List.take_append_drop j L, List.map_append, List.sum_append]
  omega
end Go.Proofs.Ytcbklkcpjldcjaa
