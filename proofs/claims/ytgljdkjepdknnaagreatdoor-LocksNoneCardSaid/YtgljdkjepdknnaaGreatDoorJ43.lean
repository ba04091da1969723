/- slices.Sort and slices.Compact over numbers: the shelf's contracts, laid at this program, over what a call owns. (printed by genshelf.py) -/
import Derived.Test.YtgljdkjepdknnaaGreatDoorJ2
import Derived.Shelf.Sort.Plain
import Derived.Shelf.Slices.CompactI
import Derived.Shelf.Slices.In.SortNone
namespace Go.Proofs.YtgljdkjepdknnaaGreatDoor
open Go.ChangeShapes Go.WideShapes Go.ChangeAt Go.RowKit
set_option maxRecDepth 100000
set_option linter.unusedSimpArgs false

def shLays189_ren : Go.Shelf.Ren := ⟨fun | 189 => 106 | 125 => 155 | 257 => 154 | 128 => 185 | 129 => 186 | 294 => 176 | 295 => 177 | 296 => 178 | 297 => 179 | 298 => 180 | 299 => 181 | 216 => 182 | 300 => 183 | 301 => 184 | 328 => 196 | 329 => 197 | 330 => 198 | 331 => 199 | 332 => 200 | 215 => 201 | 343 => 205 | n => n, fun | 28 => 42 | 3 => 3 | 46 => 115 | 0 => 0 | 51 => 194 | 53 => 196 | 4 => 4 | 183 => 187 | 182 => 186 | 131 => 191 | 5 => 5 | 9 => 9 | 218 => 202 | 222 => 206 | 228 => 209 | 229 => 210 | n => n, fun | n => n⟩
theorem shLays189 : Go.Proofs.Lays.n189 Tryz.prog shLays189_ren := { mixed := by kernel_rfl, f125 := Tryz.func155.trans (congrArg some (by kernel_rfl)), f128 := Tryz.func185.trans (congrArg some (by kernel_rfl)), f129 := Tryz.func186.trans (congrArg some (by kernel_rfl)), f189 := Tryz.func106.trans (congrArg some (by kernel_rfl)), f215 := Tryz.func201.trans (congrArg some (by kernel_rfl)), f216 := Tryz.func182.trans (congrArg some (by kernel_rfl)), f257 := Tryz.func154.trans (congrArg some (by kernel_rfl)), f294 := Tryz.func176.trans (congrArg some (by kernel_rfl)), f295 := Tryz.func177.trans (congrArg some (by kernel_rfl)), f296 := Tryz.func178.trans (congrArg some (by kernel_rfl)), f297 := Tryz.func179.trans (congrArg some (by kernel_rfl)), f298 := Tryz.func180.trans (congrArg some (by kernel_rfl)), f299 := Tryz.func181.trans (congrArg some (by kernel_rfl)), f300 := Tryz.func183.trans (congrArg some (by kernel_rfl)), f301 := Tryz.func184.trans (congrArg some (by kernel_rfl)), f328 := Tryz.func196.trans (congrArg some (by kernel_rfl)), f329 := Tryz.func197.trans (congrArg some (by kernel_rfl)), f330 := Tryz.func198.trans (congrArg some (by kernel_rfl)), f331 := Tryz.func199.trans (congrArg some (by kernel_rfl)), f332 := Tryz.func200.trans (congrArg some (by kernel_rfl)), f343 := Tryz.func205.trans (congrArg some (by kernel_rfl)), t0 := Tryz.underlying0, a0 := Tryz.isAgg0, z0 := Tryz.sizeOf0, v0 := Tryz.zeroValue0, t3 := Tryz.underlying3, a3 := Tryz.isAgg3, z3 := Tryz.sizeOf3, v3 := Tryz.zeroValue3, t4 := Tryz.underlying4, a4 := Tryz.isAgg4, z4 := Tryz.sizeOf4, v4 := Tryz.zeroValue4, t5 := Tryz.underlying5, a5 := Tryz.isAgg5, z5 := Tryz.sizeOf5, v5 := Tryz.zeroValue5, t9 := Tryz.underlying9, a9 := Tryz.isAgg9, z9 := Tryz.sizeOf9, v9 := Tryz.zeroValue9, t28 := Tryz.underlying42, a28 := Tryz.isAgg42, z28 := Tryz.sizeOf42, v28 := Tryz.zeroValue42, t46 := Tryz.underlying115, a46 := Tryz.isAgg115, z46 := Tryz.sizeOf115, v46 := Tryz.zeroValue115, t51 := Tryz.underlying194, a51 := Tryz.isAgg194, z51 := Tryz.sizeOf194, v51 := Tryz.zeroValue194, t53 := Tryz.underlying196, a53 := Tryz.isAgg196, z53 := Tryz.sizeOf196, v53 := Tryz.zeroValue196, t131 := Tryz.underlying191, a131 := Tryz.isAgg191, z131 := Tryz.sizeOf191, v131 := Tryz.zeroValue191, t182 := Tryz.underlying186, a182 := Tryz.isAgg186, z182 := Tryz.sizeOf186, v182 := Tryz.zeroValue186, t183 := Tryz.underlying187, a183 := Tryz.isAgg187, z183 := Tryz.sizeOf187, v183 := Tryz.zeroValue187, t218 := Tryz.underlying202, a218 := Tryz.isAgg202, z218 := Tryz.sizeOf202, v218 := Tryz.zeroValue202, t222 := Tryz.underlying206, a222 := Tryz.isAgg206, z222 := Tryz.sizeOf206, v222 := Tryz.zeroValue206, t228 := Tryz.underlying209, a228 := Tryz.isAgg209, z228 := Tryz.sizeOf209, v228 := Tryz.zeroValue209, t229 := Tryz.underlying210, a229 := Tryz.isAgg210, z229 := Tryz.sizeOf210, v229 := Tryz.zeroValue210 }
def shLays20_ren : Go.Shelf.Ren := ⟨fun | 20 => 107 | n => n, fun | 22 => 42 | 3 => 3 | 4 => 4 | 0 => 0 | n => n, fun | n => n⟩
theorem shLays20 : Go.Proofs.Lays2.n20 Tryz.prog shLays20_ren := { mixed := by kernel_rfl, f20 := Tryz.func107.trans (congrArg some (by kernel_rfl)), t0 := Tryz.underlying0, a0 := Tryz.isAgg0, z0 := Tryz.sizeOf0, v0 := Tryz.zeroValue0, t3 := Tryz.underlying3, a3 := Tryz.isAgg3, z3 := Tryz.sizeOf3, v3 := Tryz.zeroValue3, t4 := Tryz.underlying4, a4 := Tryz.isAgg4, z4 := Tryz.sizeOf4, v4 := Tryz.zeroValue4, t22 := Tryz.underlying42, a22 := Tryz.isAgg42, z22 := Tryz.sizeOf42, v22 := Tryz.zeroValue42, i3 := by kernel_rfl }
theorem own_put {w w' : World} {g n cap : Nat} {xs : List Value} {d : List Int} {m : Nat} {q : Nat} {os : Array Obj} (ho : Own w 3 1 (.slice (some ⟨g, 0, none⟩) n cap) n xs) (hd : d.length = n) (hm : m ≤ n) (hw : w' = Go.Sort.grow (Go.Sort.putRow (Value.int .i64) (Go.Sort.ahead w q) g 0 d.toArray) os) :
    Own w' 3 1 (.slice (some ⟨g, 0, none⟩) m cap) m ((d.take m).map (Value.int .i64)) ∧ Kept (fun k => (Value.slice (some ⟨g, 0, none⟩) n cap).ownBlock = some k) w w' := by
  subst hw
  obtain ⟨h1, h2, h3⟩ := ho
  rcases h3 with ⟨h3, _⟩ | ⟨g', cap', cur, hv, hg, hnc, hcm, hsz, htk⟩
  · cases h3
  cases hv
  have hlt := lt_of_heap hg
  rw [Nat.mul_one] at hsz
  have hheap : ∀ k, k < w.heap.size → (Go.Sort.grow (Go.Sort.putRow (Value.int .i64) (Go.Sort.ahead w q) g 0 d.toArray) os).heap[k]? = if g = k then some (.cells (Go.Sort.putCells (Value.int .i64) 0 d.toArray cur) 3 (0, 0)) else w.heap[k]? := by
    intro k hk
    unfold Go.Sort.grow Go.Sort.putRow Go.Sort.mapBlock
    dsimp only
    rw [Array.getElem?_append_left (by simpa using hk), Array.getElem?_modify]
    by_cases hgk : g = k
    · subst hgk
      rw [if_pos rfl, if_pos rfl]
      show Option.map _ w.heap[g]? = _
      rw [hg]
      rfl
    · rw [if_neg hgk, if_neg hgk]
      rfl
  refine ⟨⟨by simp; omega, fun u hu => ?_, .inr ⟨g, cap, _, rfl, by rw [hheap g hlt, if_pos rfl], by omega, hcm, by simpa [Go.Sort.putCells] using hsz, ?_⟩⟩, ⟨rfl, rfl, rfl, by simp, fun k hk hs => ?_⟩⟩
  · obtain ⟨x, _, rfl⟩ := List.mem_map.1 hu
    rfl
  · rw [Nat.mul_one]
    apply List.ext_getElem?
    intro j
    rw [List.getElem?_take, List.getElem?_map, List.getElem?_take]
    by_cases hj : j < m
    · rw [if_pos hj, if_pos hj]
      have hjc : j < cur.size := by omega
      have hjd : j < d.length := by omega
      simp [Go.Sort.putCells, hjc, hjd]
    · rw [if_neg hj, if_neg hj]
      rfl
  · rw [hheap k hk, if_neg (fun e => hs (by rw [e]; rfl))]
theorem holds_own {w : World} {g cap : Nat} {zs : List Int} (ho : Own w 3 1 (.slice (some ⟨g, 0, none⟩) zs.length cap) zs.length (zs.map (Value.int .i64))) : Go.Sort.Holds (Value.int .i64) w g 0 zs.toArray := by
  obtain ⟨z, _, hr⟩ := ho.row
  intro j hj
  have hj' : j < zs.length := by simpa using hj
  rw [Nat.zero_add]
  refine ⟨?_, hr.frozen j⟩
  refine hr.cell (j := j) ?_
  rw [List.getElem?_map, List.getElem?_eq_getElem hj']
  simp [hj']
def leI (x y : Int) : Bool := decide (x ≤ y)
theorem sort_int {B w : World} {D : PH} {l : List HP} {v : Value} {zs : List Int} (hl : zs.length ≤ 1000000000) (h : Sat B D w (intsP v zs :: l)) :
    Calls Tryz.prog 106 #[v] w fun e w' => e = .returned (.tuple #[]) ∧ Sat B D w' (intsP v (zs.mergeSort leI) :: l) := by
  rcases (h.own 0 rfl).2.2 with ⟨rfl, h0⟩ | ⟨g, cap, cur, rfl, hg, hnc, hcm, _⟩
  · have hz : zs = [] := List.eq_nil_of_length_eq_zero h0
    subst hz
    refine (Any.slices_Sort_int_none shLays189 none 0 w).mono ?_
    rintro e w' ⟨rfl, rfl⟩
    rw [List.mergeSort_nil]
    exact ⟨rfl, h⟩
  · refine (Any.slices_Sort_int shLays189 g 0 cap zs w (holds_own (h.own 0 rfl)) (lt_of_heap hg) (by omega)).mono ?_
    rintro e w' ⟨rfl, n, os, hw⟩
    refine ⟨rfl, ?_⟩
    obtain ⟨h1, h2⟩ := own_put (m := zs.length) (h.own 0 rfl) (d := zs.mergeSort fun x y => decide (x ≤ y)) (by simp) (Nat.le_refl _) hw
    rw [List.take_of_length_le (by simp)] at h1
    show Sat B D w' (ownS _ _ _ (zs.mergeSort leI).length _ :: l)
    rw [List.length_mergeSort]
    exact h.own_step h2 h1 (.inl rfl)
theorem compact_facts (d : Array Int) (hs : ∀ i j, i ≤ j → j < d.size → d[i]! ≤ d[j]!) : ∀ m, m ≤ d.size → (Go.Lib.compactUpTo d m).Pairwise (· < ·) ∧ (∀ x, x ∈ Go.Lib.compactUpTo d m ↔ ∃ j, j < m ∧ d[j]! = x) ∧ (Go.Lib.compactUpTo d m).length ≤ m := by
  intro m
  induction m with
  | zero =>
    intro _
    refine ⟨?_, fun x => ?_, ?_⟩
    · simp [Go.Lib.compactUpTo]
    · simp [Go.Lib.compactUpTo]
    · simp [Go.Lib.compactUpTo]
  | succ m ih =>
    intro hm
    obtain ⟨h1, h2, h3⟩ := ih (by omega)
    rw [Go.Lib.compactUpTo_succ]
    cases hk : Go.Lib.keeps d m
    · have hmm : m ≠ 0 ∧ d[m]! = d[m - 1]! := by simpa [Go.Lib.keeps] using hk
      rw [if_neg (by simp), List.append_nil]
      refine ⟨h1, fun x => ?_, by omega⟩
      rw [h2]
      constructor
      · rintro ⟨j, hj, hx⟩; exact ⟨j, by omega, hx⟩
      · rintro ⟨j, hj, hx⟩
        by_cases e : j = m
        · subst e; exact ⟨j - 1, by omega, by rw [← hmm.2]; exact hx⟩
        · exact ⟨j, by omega, hx⟩
    · rw [if_pos rfl]
      refine ⟨List.pairwise_append.2 ⟨h1, List.pairwise_singleton _ _, fun a ha b hb => ?_⟩, fun x => ?_, by simp; omega⟩
      · obtain rfl := List.mem_singleton.1 hb
        obtain ⟨j, hj, rfl⟩ := (h2 a).1 ha
        have hne : d[m]! ≠ d[m - 1]! := by
          have : m = 0 ∨ d[m]! ≠ d[m - 1]! := by simpa [Go.Lib.keeps] using hk
          rcases this with h | h
          · omega
          · exact h
        have ha := hs j (m - 1) (by omega) (by omega)
        have hb := hs (m - 1) m (by omega) (by omega)
        omega
      · rw [List.mem_append, h2, List.mem_singleton]
        constructor
        · rintro (⟨j, hj, hx⟩ | hx)
          · exact ⟨j, by omega, hx⟩
          · exact ⟨m, by omega, hx.symm⟩
        · rintro ⟨j, hj, hx⟩
          by_cases e : j = m
          · subst e; exact .inr hx.symm
          · exact .inl ⟨j, by omega, hx⟩
theorem bang_at (ys : List Int) (i : Nat) (h : i < ys.length) : ys.toArray[i]! = ys[i] := by rw [getElem!_pos _ i (by simpa using h)]; simp
theorem sorted_at (l : List Int) : ∀ i j, i ≤ j → j < (l.mergeSort leI).toArray.size → (l.mergeSort leI).toArray[i]! ≤ (l.mergeSort leI).toArray[j]! := by
  intro i j hij hj
  have hp : (l.mergeSort leI).Pairwise (fun a b => leI a b = true) := List.pairwise_mergeSort (fun a b c h1 h2 => by unfold leI at *; simp at *; omega) (fun a b => by unfold leI; simp; omega) l
  have hj' : j < (l.mergeSort leI).length := by simpa using hj
  have hi' : i < (l.mergeSort leI).length := by omega
  rw [bang_at _ i hi', bang_at _ j hj']
  rcases Nat.lt_or_ge i j with h | h
  · have := List.pairwise_iff_getElem.1 hp i j hi' hj' h
    exact of_decide_eq_true this
  · have : i = j := by omega
    subst this
    exact Int.le_refl _
theorem compact_sorted (l : List Int) : Go.Lib.compact (l.mergeSort leI) = putAll l ∧ (Go.Lib.compact (l.mergeSort leI)).length ≤ (l.mergeSort leI).length := by
  obtain ⟨h1, h2, h3⟩ := compact_facts (l.mergeSort leI).toArray (sorted_at l) (l.mergeSort leI).length (by simp)
  refine ⟨putAll_eq h1 (fun x => ?_), h3⟩
  show x ∈ Go.Lib.compactUpTo _ _ ↔ _
  rw [h2, ← List.mem_mergeSort (le := leI)]
  constructor
  · rintro ⟨j, hj, rfl⟩
    rw [bang_at _ j hj]
    exact List.getElem_mem hj
  · intro hx
    obtain ⟨j, hj, rfl⟩ := List.mem_iff_getElem.1 hx
    exact ⟨j, hj, bang_at _ j hj⟩
theorem compact_int {B w : World} {D : PH} {l : List HP} {v : Value} {zs : List Int} (hl : zs.length ≤ 1000000000) (h : Sat B D w (intsP v (zs.mergeSort leI) :: l)) :
    Calls Tryz.prog 107 #[v] w fun e w' => ∃ u, e = .returned u ∧ Sat B D w' (intsP u (putAll zs) :: l) := by
  obtain ⟨hc, hcl⟩ := compact_sorted zs
  have hll : (zs.mergeSort leI).length ≤ 1000000000 := by rw [List.length_mergeSort]; exact hl
  generalize zs.mergeSort leI = ys at *
  rw [← hc]
  rcases (h.own 0 rfl).2.2 with ⟨rfl, h0⟩ | ⟨g, cap, cur, rfl, hg, hnc, hcm, _⟩
  · have hz : ys = [] := List.eq_nil_of_length_eq_zero h0
    subst hz
    refine (Any.slices_Compact_int_empty shLays20 none 0 w).mono ?_
    rintro e w' ⟨rfl, rfl⟩
    exact ⟨_, rfl, h⟩
  · refine (Any.slices_Compact_int shLays20 g 0 cap ys w (holds_own (h.own 0 rfl)) (by omega) hnc).mono ?_
    rintro e w' ⟨rfl, q, hw⟩
    obtain ⟨h1, h2⟩ := own_put (w' := w') (m := (Go.Lib.compact ys).length) (q := q) (os := #[]) (h.own 0 rfl) (d := Go.Lib.compact ys ++ List.replicate (ys.length - (Go.Lib.compact ys).length) 0) (by rw [List.length_append, List.length_replicate]; omega) hcl (hw.trans (Go.Sort.grow_empty _).symm)
    rw [List.take_left'  rfl] at h1
    exact ⟨_, rfl, h.own_step h2 h1 (.inl rfl)⟩
end Go.Proofs.YtgljdkjepdknnaaGreatDoor
