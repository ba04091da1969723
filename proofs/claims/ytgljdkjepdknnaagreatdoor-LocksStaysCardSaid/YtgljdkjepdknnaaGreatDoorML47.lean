/- Joined texts: slices.Sort and slices.Compact over numbers: the shelf's contracts, laid at this program, over what a call owns. (printed by genshelf.py) For whom somebody waits. (printed by genq.py) For whom somebody waits. -/
import Derived.Test.YtgljdkjepdknnaaGreatDoorML2
import Derived.Shelf.Sort.Plain
import Derived.Shelf.Slices.CompactI
import Derived.Shelf.Slices.In.SortNone
import Derived.Test.YtgljdkjepdknnaaGreatDoorML14
import Derived.Test.YtgljdkjepdknnaaGreatDoorML13
import Derived.Test.YtgljdkjepdknnaaGreatDoorML29
set_option maxHeartbeats 64000000
namespace Go.Proofs.YtgljdkjepdknnaaGreatDoor
open Go.ChangeShapes Go.WideShapes Go.ChangeAt Go.RowKit
set_option maxRecDepth 100000
set_option linter.unusedSimpArgs false
def l6 : Go.Shelf.Ren := ⟨fun | 189 => 106 | 125 => 155 | 257 => 154 | 128 => 185 | 129 => 186 | 294 => 176 | 295 => 177 | 296 => 178 | 297 => 179 | 298 => 180 | 299 => 181 | 216 => 182 | 300 => 183 | 301 => 184 | 328 => 196 | 329 => 197 | 330 => 198 | 331 => 199 | 332 => 200 | 215 => 201 | 343 => 205 | n => n, fun | 28 => 42 | 3 => 3 | 46 => 115 | 0 => 0 | 51 => 194 | 53 => 196 | 4 => 4 | 183 => 187 | 182 => 186 | 131 => 191 | 5 => 5 | 9 => 9 | 218 => 202 | 222 => 206 | 228 => 209 | 229 => 210 | n => n, fun | n => n⟩
theorem mG : Go.Proofs.Lays.n189 Tryz.prog l6 := { mixed := by kernel_rfl, f125 := Tryz.func155.trans (congrArg some (by kernel_rfl)), f128 := Tryz.func185.trans (congrArg some (by kernel_rfl)), f129 := Tryz.func186.trans (congrArg some (by kernel_rfl)), f189 := Tryz.func106.trans (congrArg some (by kernel_rfl)), f215 := Tryz.func201.trans (congrArg some (by kernel_rfl)), f216 := Tryz.func182.trans (congrArg some (by kernel_rfl)), f257 := Tryz.func154.trans (congrArg some (by kernel_rfl)), f294 := Tryz.func176.trans (congrArg some (by kernel_rfl)), f295 := Tryz.func177.trans (congrArg some (by kernel_rfl)), f296 := Tryz.func178.trans (congrArg some (by kernel_rfl)), f297 := Tryz.func179.trans (congrArg some (by kernel_rfl)), f298 := Tryz.func180.trans (congrArg some (by kernel_rfl)), f299 := Tryz.func181.trans (congrArg some (by kernel_rfl)), f300 := Tryz.func183.trans (congrArg some (by kernel_rfl)), f301 := Tryz.func184.trans (congrArg some (by kernel_rfl)), f328 := Tryz.func196.trans (congrArg some (by kernel_rfl)), f329 := Tryz.func197.trans (congrArg some (by kernel_rfl)), f330 := Tryz.func198.trans (congrArg some (by kernel_rfl)), f331 := Tryz.func199.trans (congrArg some (by kernel_rfl)), f332 := Tryz.func200.trans (congrArg some (by kernel_rfl)), f343 := Tryz.func205.trans (congrArg some (by kernel_rfl)), t0 := Tryz.underlying0, a0 := Tryz.isAgg0, z0 := Tryz.sizeOf0, v0 := Tryz.zeroValue0, t3 := Tryz.underlying3, a3 := Tryz.isAgg3, z3 := Tryz.sizeOf3, v3 := Tryz.zeroValue3, t4 := Tryz.underlying4, a4 := Tryz.isAgg4, z4 := Tryz.sizeOf4, v4 := Tryz.zeroValue4, t5 := Tryz.underlying5, a5 := Tryz.isAgg5, z5 := Tryz.sizeOf5, v5 := Tryz.zeroValue5, t9 := Tryz.underlying9, a9 := Tryz.isAgg9, z9 := Tryz.sizeOf9, v9 := Tryz.zeroValue9, t28 := Tryz.underlying42, a28 := Tryz.isAgg42, z28 := Tryz.sizeOf42, v28 := Tryz.zeroValue42, t46 := Tryz.underlying115, a46 := Tryz.isAgg115, z46 := Tryz.sizeOf115, v46 := Tryz.zeroValue115, t51 := Tryz.underlying194, a51 := Tryz.isAgg194, z51 := Tryz.sizeOf194, v51 := Tryz.zeroValue194, t53 := Tryz.underlying196, a53 := Tryz.isAgg196, z53 := Tryz.sizeOf196, v53 := Tryz.zeroValue196, t131 := Tryz.underlying191, a131 := Tryz.isAgg191, z131 := Tryz.sizeOf191, v131 := Tryz.zeroValue191, t182 := Tryz.underlying186, a182 := Tryz.isAgg186, z182 := Tryz.sizeOf186, v182 := Tryz.zeroValue186, t183 := Tryz.underlying187, a183 := Tryz.isAgg187, z183 := Tryz.sizeOf187, v183 := Tryz.zeroValue187, t218 := Tryz.underlying202, a218 := Tryz.isAgg202, z218 := Tryz.sizeOf202, v218 := Tryz.zeroValue202, t222 := Tryz.underlying206, a222 := Tryz.isAgg206, z222 := Tryz.sizeOf206, v222 := Tryz.zeroValue206, t228 := Tryz.underlying209, a228 := Tryz.isAgg209, z228 := Tryz.sizeOf209, v228 := Tryz.zeroValue209, t229 := Tryz.underlying210, a229 := Tryz.isAgg210, z229 := Tryz.sizeOf210, v229 := Tryz.zeroValue210 }
def mV : Go.Shelf.Ren := ⟨fun | 20 => 107 | n => n, fun | 22 => 42 | 3 => 3 | 4 => 4 | 0 => 0 | n => n, fun | n => n⟩
theorem oz : Go.Proofs.Lays2.n20 Tryz.prog mV := { mixed := by kernel_rfl, f20 := Tryz.func107.trans (congrArg some (by kernel_rfl)), t0 := Tryz.underlying0, a0 := Tryz.isAgg0, z0 := Tryz.sizeOf0, v0 := Tryz.zeroValue0, t3 := Tryz.underlying3, a3 := Tryz.isAgg3, z3 := Tryz.sizeOf3, v3 := Tryz.zeroValue3, t4 := Tryz.underlying4, a4 := Tryz.isAgg4, z4 := Tryz.sizeOf4, v4 := Tryz.zeroValue4, t22 := Tryz.underlying42, a22 := Tryz.isAgg42, z22 := Tryz.sizeOf42, v22 := Tryz.zeroValue42, i3 := by kernel_rfl }
theorem rC {w w' : World} {g n cap : Nat} {xs : List Value} {d : List Int} {m : Nat} {q : Nat} {os : Array Obj} (ho : Own w 3 1 (.slice (some ⟨g, 0, none⟩) n cap) n xs) (hd : d.length = n) (hm : m ≤ n) (hw : w' = Go.Sort.grow (Go.Sort.putRow (Value.int .i64) (Go.Sort.ahead w q) g 0 d.toArray) os) :
  Own w' 3 1 (.slice (some ⟨g, 0, none⟩) m cap) m ((d.take m).map (Value.int .i64)) ∧ Kept (fun k => (Value.slice (some ⟨g, 0, none⟩) n cap).ownBlock = some k) w w' := by
 subst hw
 obtain ⟨h1, h2, h3⟩ := ho
 rcases h3 with ⟨h3, _⟩ | ⟨g', cap', cur, hv, hg, hnc, hcm, hsz, htk⟩
 ·cases h3
 cases hv
 have hlt := aH hg
 rw [Nat.mul_one] at hsz
 have hheap : ∀ k, k < w.heap.size → (Go.Sort.grow (Go.Sort.putRow (Value.int .i64) (Go.Sort.ahead w q) g 0 d.toArray) os).heap[k]? = if g = k then some (.cells (Go.Sort.putCells (Value.int .i64) 0 d.toArray cur) 3 (0, 0)) else w.heap[k]? := by
  intro k hk
  unfold Go.Sort.grow Go.Sort.putRow Go.Sort.mapBlock
  dsimp only
  rw [Array.getElem?_append_left (by simpa using hk), Array.getElem?_modify]
  by_cases hgk : g = k
  ·subst hgk
   rw [if_pos rfl, if_pos rfl]
   show Option.map _ w.heap[g]? = _
   rw [hg]
   rfl
  ·rw [if_neg hgk, if_neg hgk]
   rfl
 refine ⟨⟨by simp; omega, fun u hu => ?_, .inr ⟨g, cap, _, rfl, by rw [hheap g hlt, if_pos rfl], by omega, hcm, by simpa [Go.Sort.putCells] using hsz, ?_⟩⟩, ⟨rfl, rfl, rfl, by simp, fun k hk hs => ?_⟩⟩
 ·obtain ⟨x, _, rfl⟩ := List.mem_map.1 hu
  rfl
 ·rw [Nat.mul_one]
  apply List.ext_getElem?
  intro j
  rw [List.getElem?_take, List.getElem?_map, List.getElem?_take]
  by_cases hj : j < m
  ·rw [if_pos hj, if_pos hj]
   have hjc : j < cur.size := by omega
   have hjd : j < d.length := by omega
   simp [Go.Sort.putCells, hjc, hjd]
  ·rw [if_neg hj, if_neg hj]
   rfl
 ·rw [hheap k hk, if_neg (fun e => hs (by rw [e]; rfl))]
theorem mB {w : World} {g cap : Nat} {zs : List Int} (ho : Own w 3 1 (.slice (some ⟨g, 0, none⟩) zs.length cap) zs.length (zs.map (Value.int .i64))) : Go.Sort.Holds (Value.int .i64) w g 0 zs.toArray := by
 obtain ⟨z, _, hr⟩ := ho.row
 intro j hj
 have hj' : j < zs.length := by simpa using hj
 rw [Nat.zero_add]
 refine ⟨?_, hr.frozen j⟩
 refine hr.cell (j := j) ?_
 rw [List.getElem?_map, List.getElem?_eq_getElem hj']
 simp [hj']
def leI (x y : Int) : Bool := decide (x ≤ y)
theorem s8 {B w : World} {D : PH} {l : List HP} {v : Value} {zs : List Int} (hl : zs.length ≤ 1000000000) (h : Sat B D w (cj v zs :: l)) :
  Calls Tryz.prog 106 #[v] w fun e w' => e = .returned (.tuple #[]) ∧ Sat B D w' (cj v (zs.mergeSort leI) :: l) := by
 rcases (h.own 0 rfl).2.2 with ⟨rfl, h0⟩ | ⟨g, cap, cur, rfl, hg, hnc, hcm, _⟩
 ·have hz : zs = [] := List.eq_nil_of_length_eq_zero h0
  subst hz
  refine (Any.slices_Sort_int_none mG none 0 w).mono ?_
  rintro e w' ⟨rfl, rfl⟩
  rw [List.mergeSort_nil]
  exact ⟨rfl, h⟩
 ·refine (Any.slices_Sort_int mG g 0 cap zs w (mB (h.own 0 rfl)) (aH hg) (by omega)).mono ?_
  rintro e w' ⟨rfl, n, os, hw⟩
  refine ⟨rfl, ?_⟩
  obtain ⟨h1, h2⟩ := rC (m := zs.length) (h.own 0 rfl) (d := zs.mergeSort fun x y => decide (x ≤ y)) (by simp) (Nat.le_refl _) hw
  rw [List.take_of_length_le (by simp)] at h1
  show Sat B D w' (aI _ _ _ (zs.mergeSort leI).length _ :: l)
  rw [List.length_mergeSort]
  exact h.own_step h2 h1 (.inl rfl)
theorem mg (d : Array Int) (hs : ∀ i j, i ≤ j → j < d.size → d[i]! ≤ d[j]!) : ∀ m, m ≤ d.size → (Go.Lib.compactUpTo d m).Pairwise (· < ·) ∧ (∀ x, x ∈ Go.Lib.compactUpTo d m ↔ ∃ j, j < m ∧ d[j]! = x) ∧ (Go.Lib.compactUpTo d m).length ≤ m := by
 intro m
 induction m with
 | zero =>
  intro _
  refine ⟨?_, fun x => ?_, ?_⟩
  ·simp [Go.Lib.compactUpTo]
  ·simp [Go.Lib.compactUpTo]
  ·simp [Go.Lib.compactUpTo]
 | succ m ih =>
  intro hm
  obtain ⟨h1, h2, h3⟩ := ih (by omega)
  rw [Go.Lib.compactUpTo_succ]
  cases hk : Go.Lib.keeps d m
  ·have hmm : m ≠ 0 ∧ d[m]! = d[m - 1]! := by simpa [Go.Lib.keeps] using hk
   rw [if_neg (by simp), List.append_nil]
   refine ⟨h1, fun x => ?_, by omega⟩
   rw [h2]
   constructor
   ·rintro ⟨j, hj, hx⟩; exact ⟨j, by omega, hx⟩
   ·rintro ⟨j, hj, hx⟩
    by_cases e : j = m
    ·subst e; exact ⟨j - 1, by omega, by rw [← hmm.2]; exact hx⟩
    ·exact ⟨j, by omega, hx⟩
  ·rw [if_pos rfl]
   refine ⟨List.pairwise_append.2 ⟨h1, List.pairwise_singleton _ _, fun a ha b hb => ?_⟩, fun x => ?_, by simp; omega⟩
   ·obtain rfl := List.mem_singleton.1 hb
    obtain ⟨j, hj, rfl⟩ := (h2 a).1 ha
    have hne : d[m]! ≠ d[m - 1]! := by
     have : m = 0 ∨ d[m]! ≠ d[m - 1]! := by simpa [Go.Lib.keeps] using hk
     rcases this with h | h
     ·omega
     ·exact h
    have ha := hs j (m - 1) (by omega) (by omega)
    have hb := hs (m - 1) m (by omega) (by omega)
    omega
   ·rw [List.mem_append, h2, List.mem_singleton]
    constructor
    ·rintro (⟨j, hj, hx⟩ | hx)
     ·exact ⟨j, by omega, hx⟩
     ·exact ⟨m, by omega, hx.symm⟩
    ·rintro ⟨j, hj, hx⟩
     by_cases e : j = m
     ·subst e; exact .inr hx.symm
     ·exact .inl ⟨j, by omega, hx⟩
theorem kA (ys : List Int) (i : Nat) (h : i < ys.length) : ys.toArray[i]! = ys[i] := by rw [getElem!_pos _ i (by simpa using h)]; simp
theorem r7 (l : List Int) : ∀ i j, i ≤ j → j < (l.mergeSort leI).toArray.size → (l.mergeSort leI).toArray[i]! ≤ (l.mergeSort leI).toArray[j]! := by
 intro i j hij hj
 have hp : (l.mergeSort leI).Pairwise (fun a b => leI a b = true) := List.pairwise_mergeSort (fun a b c h1 h2 => by unfold leI at *; simp at *; omega) (fun a b => by unfold leI; simp; omega) l
 have hj' : j < (l.mergeSort leI).length := by simpa using hj
 have hi' : i < (l.mergeSort leI).length := by omega
 rw [kA _ i hi', kA _ j hj']
 rcases Nat.lt_or_ge i j with h | h
 ·have := List.pairwise_iff_getElem.1 hp i j hi' hj' h
  exact of_decide_eq_true this
 ·have : i = j := by omega
  subst this
  exact Int.le_refl _
theorem kN (l : List Int) : Go.Lib.compact (l.mergeSort leI) = cC l ∧ (Go.Lib.compact (l.mergeSort leI)).length ≤ (l.mergeSort leI).length := by
 obtain ⟨h1, h2, h3⟩ := mg (l.mergeSort leI).toArray (r7 l) (l.mergeSort leI).length (by simp)
 refine ⟨rQ h1 (fun x => ?_), h3⟩
 show x ∈ Go.Lib.compactUpTo _ _ ↔ _
 rw [h2, ← List.mem_mergeSort (le := leI)]
 constructor
 ·rintro ⟨j, hj, rfl⟩
  rw [kA _ j hj]
  exact List.getElem_mem hj
 ·intro hx
  obtain ⟨j, hj, rfl⟩ := List.mem_iff_getElem.1 hx
  exact ⟨j, hj, kA _ j hj⟩
theorem pj {B w : World} {D : PH} {l : List HP} {v : Value} {zs : List Int} (hl : zs.length ≤ 1000000000) (h : Sat B D w (cj v (zs.mergeSort leI) :: l)) :
  Calls Tryz.prog 107 #[v] w fun e w' => ∃ u, e = .returned u ∧ Sat B D w' (cj u (cC zs) :: l) := by
 obtain ⟨hc, hcl⟩ := kN zs
 have hll : (zs.mergeSort leI).length ≤ 1000000000 := by rw [List.length_mergeSort]; exact hl
 generalize zs.mergeSort leI = ys at *
 rw [← hc]
 rcases (h.own 0 rfl).2.2 with ⟨rfl, h0⟩ | ⟨g, cap, cur, rfl, hg, hnc, hcm, _⟩
 ·have hz : ys = [] := List.eq_nil_of_length_eq_zero h0
  subst hz
  refine (Any.slices_Compact_int_empty oz none 0 w).mono ?_
  rintro e w' ⟨rfl, rfl⟩
  exact ⟨_, rfl, h⟩
 ·refine (Any.slices_Compact_int oz g 0 cap ys w (mB (h.own 0 rfl)) (by omega) hnc).mono ?_
  rintro e w' ⟨rfl, q, hw⟩
  obtain ⟨h1, h2⟩ := rC (w' := w') (m := (Go.Lib.compact ys).length) (q := q) (os := #[]) (h.own 0 rfl) (d := Go.Lib.compact ys ++ List.replicate (ys.length - (Go.Lib.compact ys).length) 0) (by rw [List.length_append, List.length_replicate]; omega) hcl (hw.trans (Go.Sort.grow_empty _).symm)
  rw [List.take_left'  rfl] at h1
  exact ⟨_, rfl, h.own_step h2 h1 (.inl rfl)⟩
theorem Sat.set1_C {B w : World} {D : PH} {l : List HP} {b : Nat} {t : TypeId} {y : Value} (hs : Sat B D w (Proofs.YtgljdkjepdknnaaGreatDoor.blk b #[y] t :: l)) (u : Value) : Sat B D (w.setCell ⟨b, 0, none⟩ u) (Proofs.YtgljdkjepdknnaaGreatDoor.blk b #[u] t :: l) := hs.set 0 u
noncomputable def bM (zs : List (EntE)) (o : Int) (c : Clm) (j : Nat) : List Int := (((zs.take j).map aE).filter (bd RC o c)).map (fun e => e.o)
theorem i6 {zs : List (EntE)} {o : Int} {c : Clm} {j : Nat} {x : EntE} (hx : zs[j]? = some x) (h : bd RC o c (aE x) = true) : bM zs o c (j + 1) = bM zs o c j ++ [x.o] := by
 unfold bM
 rw [List.take_add_one, hx, List.map_append, List.filter_append, List.map_append]
 simp [h]
theorem fC {zs : List (EntE)} {o : Int} {c : Clm} {j : Nat} {x : EntE} (hx : zs[j]? = some x) (h : bd RC o c (aE x) = false) : bM zs o c (j + 1) = bM zs o c j := by
 unfold bM
 rw [List.take_add_one, hx, List.map_append, List.filter_append, List.map_append]
 simp [h]
theorem eV (zs : List (EntE)) (o : Int) (c : Clm) (j : Nat) : (bM zs o c j).length ≤ j := by
 unfold bM
 rw [List.length_map]
 exact Nat.le_trans (List.length_filter_le _ _) (by rw [List.length_map, List.length_take]; omega)
abbrev jN (q b1 b2 b5 b6 : Nat) (hv wv ov : Value) (hs ws : List (EntE)) (o : Int) (k : Nat) (out : List Int) (l : List HP) : List HP :=
 qbC q hv wv :: bN hv hs :: bN wv ws :: blk b1 #[.int .i64 o] 3 :: blk b2 #[.pointer (some ⟨q, 0, none⟩)] 74 :: blk b5 #[.int .i64 k] 3 :: blk b6 #[ov] 42 :: cj ov out :: l
def NotedC (B : World) (D : PH) (L : Value → List HP) (r : Ending) (w' : World) : Prop := ∃ ov', r = .returned (.tuple #[]) ∧ Sat B D w' (L ov')
theorem tQ {B w : World} {D : PH} {l : List HP} {q b1 b2 b5 b6 : Nat} {hv wv ov av : Value} {hs ws zs : List (EntE)} {o : Int} {k : Nat} {en : EntE} {out : List Int} (he : EnvD D)
  (hz : ∀ x ∈ zs, ClOk D x.x) (hen : ClOk D en.x)
  (hk : ws[k]? = some en) (hl : out.length + zs.length ≤ 1000000) (hav : ∀ W Y, Sat B D W (qbC q hv wv :: bN hv hs :: bN wv ws :: Y) → Rd W 18 av zs.length (zs.flatMap ay))
  (h : Sat B D w (jN q b1 b2 b5 b6 hv wv ov hs ws o k out l)) :
  Calls Tryz.prog 105 #[av, .pointer (some ⟨b1, 0, none⟩), .pointer (some ⟨b2, 0, none⟩), .pointer (some ⟨b5, 0, none⟩), .pointer (some ⟨b6, 0, none⟩)] w (NotedC B D (fun ov' => jN q b1 b2 b5 b6 hv wv ov' hs ws o k (out ++ bM zs o (aE en).c zs.length) l)) := by
 obtain ⟨i0, hi, hz0, hz1, hz2⟩ := info_parts iu
 have HI := Eh (And.intro hi (And.intro hz0 (And.intro hz1 hz2)))
 obtain ⟨wa, wc, rfl⟩ := (h.front 2 rfl).own_shape
 obtain ⟨_, hml, aa, ac, rfl, hnc, hcm, _⟩ := hav w _ h
 unfold maxLen at hml hcm
 have Dn := Eh hav
 have HE := Eh he
 have HK := Eh hk
 have HZ := Eh hz
 have Ae := Eh hen
 have uX := Eh (show Sat B D w (jN q b1 b2 b5 b6 hv (.slice wa ws.length wc) ov hs ws o k (out ++ bM zs o (aE en).c 0) l) by rw [show bM zs o (aE en).c 0 = [] from rfl, List.append_nil]; exact h)
 have hkl : k < ws.length := (List.getElem?_eq_some_iff.1 hk).1
 clear h he hk hav hi hz0 hz1 hz2
 clear hz hen
 obtain ⟨N, hN⟩ : ∃ N, zs.length = N := ⟨_, rfl⟩
 have HN := Eh hN
 rw [hN] at hml hnc hl Dn ⊢
 clear hN
 go_enter Tryz.func105, Tryz.ntmps105
 go_wp2_with fail
 go_loopw [10] (fun ii wr2 => ∃ (j : Nat) (ov : Value), ii = .int .i64 j ∧ j ≤ N ∧ Sat B D wr2 (jN q b1 b2 b5 b6 hv (.slice wa ws.length wc) ov hs ws o k (out ++ bM zs o (aE en).c j) l)) (fun ii _ => N - (intOf ii).toNat)
 case atStart => exact ⟨0, _, rfl, by omega, uX.out⟩
 case round =>
  obtain ⟨j, ov, rfl, hj, hs2⟩ := hrel
  have vg := Eh hs2
  have hle := eV zs o (aE en).c j
  clear hs2 uX
  by_cases hlt : j < N
  ·have hii : (j : Int) < (N : Int) := by omega
   obtain ⟨x, hx⟩ : ∃ x, zs[j]? = some x := ⟨zs[j]'(by rw [HN.out]; exact hlt), List.getElem?_eq_getElem _⟩
   obtain ⟨g, og, rfl, hrng⟩ := aF bT (Dn.out wr _ vg.out) hx HN.out
   have HL := Eh (dy hrng)
   have HX := Eh hx
   have uY := Eh (vg.out.alloc (ay x).toArray bg)
   clear hx hrng
   go_upto_region 3 with (first | (refine ai rfl _ _ rfl _ _ rfl _ HL.out ?_) | (refine ax rfl _ _ _ rfl (ay x) _ _ rfl rfl (by kernel_rfl) rfl (eE x) ?_))
   clear HL vg
   obtain ⟨W4, hW4, hs4⟩ := Sat.hide uY.out
   rw [← hW4]
   clear hW4 uY
   generalize wr.heap.size = bx at hs4 ⊢
   have vh := Eh hs4
   obtain ⟨x0, _⟩ := ei (hs4.blk 0 rfl)
   obtain ⟨d1, _⟩ := aK (hs4.blk 4 rfl)
   obtain ⟨d2, _⟩ := aK (hs4.blk 5 rfl)
   obtain ⟨d5, _⟩ := aK (hs4.blk 6 rfl)
   by_cases ho : x.o = o
   ·have HT := Eh (fC HX.out (show bd RC o (aE en).c (aE x) = false by unfold bd; simp [ho]))
    rw [ho] at x0
    clear ho hs4
    refine ag [(0, false, 20), (1, false, 20), (2, false, 20), (3, false, 20), (4, false, 20), (5, false, 20), (6, false, 20), (7, false, 20), (8, false, 20), (9, false, 20), (10, false, 20), (11, false, 20), (12, false, 20), (13, false, 20), (14, false, 20), (15, false, 20), (16, false, 20), (17, false, 20), (18, false, 20), (19, false, 20), (20, true, 0), (21, false, 999)] (by kernel_rfl) (by kernel_rfl) ?_
    iterate 5 (refine af rfl rfl (fun K hK => ?_); go_simp; refine hK _ ?_; clear hK K)
    iterate 15 (first | (refine aq rfl rfl ?_; simp only [Act.put, Ei, Ej, Ek, El, Em, En]) | (refine am rfl rfl (fun K hK => ?_); go_simp; refine hK _ ?_; clear hK K))
    refine al rfl ?_
    refine bO rfl ?_
    simp only [Act.put, Ei, Ej, Ek]
    refine wpList_nil ?_
    refine And.intro ?_ ?_
    ·go_simp
    refine af rfl rfl (fun K hK => ?_); go_simp; refine hK _ ?_; clear hK K
    refine ar ?_
    go_wp2_with fail
    go_roundw
    case rel => exact ⟨j + 1, _, by go_num, by omega, by rw [HT.out]; exact vh.out.drew.drop⟩
    case measure => simp [intOf]; omega
   ·have hne : (x.o == o) = false := by simpa using ho
    have hne2 : (x.o != o) = true := by simpa using ho
    have zi := Eh (show bd RC o (aE en).c (aE x) = RC.conf (aE x).c (aE en).c by unfold bd; simp [ho])
    obtain ⟨gw, ow, hgw, hrw⟩ := aF bT (hs4.own 3 rfl).rd HK.out rfl
    subst hgw
    obtain ⟨c0, c1, c2, c3, c4, c5, cf⟩ := aX (hs4.blk 1 rfl)
    have hkl2 : (k : Int) < (ws.length : Int) := by omega
    have Do := Eh (show ∃ n, n = ws.length from ⟨_, rfl⟩)
    obtain ⟨nw, hnw⟩ := Do.out
    rw [← hnw] at c5 hkl2
    have Eg := Eh hnw
    have xI := Eh (az (w := W4.drew) (dZ (w := W4.drew) (hs4.blk 0 rfl)))
    have A4 := Eh (az (w := W4.drew) (ky (w := W4.drew) hrw))
    have wS := Eh (tI (HE.out.env hs4.drew) ((HZ.out x (List.mem_of_getElem? HX.out)).rd hs4.drew) (Ae.out.rd hs4.drew))
    clear ho hs4 hrw hnw Do
    cases hcf : RC.conf (aE x).c (aE en).c
    ·rw [hcf] at zi
     have HT := Eh (fC HX.out zi.out)
     rw [show RC.conf x.x.c en.x.c = false from hcf] at wS
     clear hcf zi
     refine ag [(0, false, 20), (1, false, 20), (2, false, 20), (3, false, 20), (4, false, 20), (5, false, 20), (6, false, 20), (7, false, 20), (8, false, 20), (9, false, 20), (10, false, 20), (11, false, 20), (12, false, 20), (13, false, 20), (14, false, 20), (15, false, 20), (16, false, 20), (17, false, 20), (18, false, 20), (19, false, 20), (20, true, 0), (21, false, 999)] (by kernel_rfl) (by kernel_rfl) ?_
     iterate 5 (refine af rfl rfl (fun K hK => ?_); (first | ((refine aj _ _ rfl _ _ rfl _ xI.out ?_); go_simp) | ((refine aj _ _ rfl _ _ rfl _ A4.out ?_); go_simp) | go_simp); refine hK _ ?_; clear hK K)
     iterate 15 (first | (refine aq rfl rfl ?_; simp only [Act.put, Ei, Ej, Ek, El, Em, En]) | (refine am rfl rfl (fun K hK => ?_); (first | ((refine aj _ _ rfl _ _ rfl _ xI.out ?_); go_simp) | ((refine aj _ _ rfl _ _ rfl _ A4.out ?_); go_simp) | go_simp); refine hK _ ?_; clear hK K))
     refine al rfl ?_
     refine aw rfl (fun K hK => ?_)
     go_simp
     refine wS.out.mono ?_
     rintro e6 w6 ⟨rfl, hk6⟩
     have vi := Eh (vh.out.drew.kept hk6).drop
     clear hk6 vh wS
     refine hK _ _ ?_
     clear hK K
     refine wpList_nil ?_
     refine And.intro ?_ ?_
     ·go_simp
     refine af rfl rfl (fun K hK => ?_); (first | ((refine aj _ _ rfl _ _ rfl _ xI.out ?_); go_simp) | ((refine aj _ _ rfl _ _ rfl _ A4.out ?_); go_simp) | go_simp); refine hK _ ?_; clear hK K
     refine ar ?_
     go_wp2_with fail
     go_roundw
     case rel => exact ⟨j + 1, _, by go_num, by omega, by rw [HT.out]; exact vi.out⟩
     case measure => simp [intOf]; omega
    ·rw [hcf] at zi
     have HT := Eh (i6 HX.out zi.out)
     rw [show RC.conf x.x.c en.x.c = true from hcf] at wS
     clear hcf zi
     refine ag [(0, false, 20), (1, false, 20), (2, false, 20), (3, false, 20), (4, false, 20), (5, false, 20), (6, false, 20), (7, false, 20), (8, false, 20), (9, false, 20), (10, false, 20), (11, false, 20), (12, false, 20), (13, false, 20), (14, false, 20), (15, false, 20), (16, false, 20), (17, false, 20), (18, false, 20), (19, false, 20), (20, true, 0), (21, false, 999)] (by kernel_rfl) (by kernel_rfl) ?_
     iterate 5 (refine af rfl rfl (fun K hK => ?_); (first | ((refine aj _ _ rfl _ _ rfl _ xI.out ?_); go_simp) | ((refine aj _ _ rfl _ _ rfl _ A4.out ?_); go_simp) | go_simp); refine hK _ ?_; clear hK K)
     iterate 15 (first | (refine aq rfl rfl ?_; simp only [Act.put, Ei, Ej, Ek, El, Em, En]) | (refine am rfl rfl (fun K hK => ?_); (first | ((refine aj _ _ rfl _ _ rfl _ xI.out ?_); go_simp) | ((refine aj _ _ rfl _ _ rfl _ A4.out ?_); go_simp) | go_simp); refine hK _ ?_; clear hK K))
     refine al rfl ?_
     refine aw rfl (fun K hK => ?_)
     go_simp
     refine wS.out.mono ?_
     rintro e6 w6 ⟨rfl, hk6⟩
     have hs6 := vh.out.drew.kept hk6
     clear hk6 vh wS x0 d1 d2 d5 c0 c1 c2 c3 c4 c5 cf
     clear xI A4
     have x0 := (ei (hs6.blk 0 rfl)).1
     obtain ⟨oa, oc, rfl⟩ := (hs6.front 8 rfl).own_shape
     obtain ⟨d6, d6f⟩ := aK (hs6.blk 7 rfl)
     refine hK _ _ ?_
     clear hK K
     refine wpList_nil ?_
     refine And.intro ?_ ?_
     ·go_simp
     refine af rfl rfl (fun K hK => ?_); (first | ((refine aj _ _ rfl _ _ rfl _ xI.out ?_); go_simp) | ((refine aj _ _ rfl _ _ rfl _ A4.out ?_); go_simp) | go_simp); refine hK _ ?_; clear hK K
     refine ar ?_
     generalize hbt : out ++ bM zs o (aE en).c j = bt at *
     have DU := Eh hbt
     have hbl : bt.length ≤ 1000000 := by rw [← hbt, List.length_append]; omega
     clear hbt
     have vo := Eh (show Sat B D (w6.alloc (.cells #[.int .i64 x.o] 3)) (aI 3 1 (.slice oa bt.length oc) bt.length (bt.map (Value.int .i64)) :: blk w6.heap.size #[.int .i64 x.o] 3 :: blk bx (ay x).toArray bg :: qbC q hv (.slice (some ⟨gw, ow, none⟩) ws.length wc) :: bN hv hs :: bN (.slice (some ⟨gw, ow, none⟩) ws.length wc) ws :: blk b1 #[.int .i64 o] 3 :: blk b2 #[.pointer (some ⟨q, 0, none⟩)] 74 :: blk b5 #[.int .i64 k] 3 :: blk b6 #[.slice oa bt.length oc] 42 :: l) from (hs6.alloc _ _).front 9 rfl)
     have vk := Eh (aS (size := 1) (n := 1) (vo.out.blk 1 rfl) rfl (by unfold maxLen; omega))
     clear hs6
     go_upto_region 5 with (at_builtin; refine au _ rfl _ _ 42 rfl 3 i0 _ 1 8 Tryz.underlying42 HI.out.1 HI.out.2.1 HI.out.2.2.1 HI.out.2.2.2 rfl _ bt.length _ rfl vo.out _ 1 _ rfl vk.out (by intro u hu; simp at hu; subst hu; rfl) (by unfold maxLen; omega) (by omega) ?_; intro v11 w11 hs11 h11; obtain ⟨va, vc, rfl⟩ := hs11.own_shape; clear h11 vo vk x0 d6 d6f; obtain ⟨d6, d6f⟩ := aK (hs11.blk 9 rfl); have vY := Eh (Sat.set1_C (hs11.front 9 rfl) (.slice va (bt.length + 1) vc)); clear hs11)
     obtain ⟨W12, hW12, hs12⟩ := Sat.hide vY.out
     rw [← hW12]
     clear hW12 vY d6 d6f
     have vY := Eh (show Sat B D W12 (jN q b1 b2 b5 b6 hv (.slice (some ⟨gw, ow, none⟩) ws.length wc) (.slice va (bt.length + 1) vc) hs ws o k (bt ++ [x.o]) l) by
      have h1 : Sat B D W12 (blk b6 #[.slice va (bt.length + 1) vc] 42 :: aI 3 1 (.slice va (bt.length + 1) vc) (bt.length + 1) (bt.map (Value.int .i64) ++ [.int .i64 x.o]) :: blk w6.heap.size #[.int .i64 x.o] 3 :: blk bx (ay x).toArray bg :: qbC q hv (.slice (some ⟨gw, ow, none⟩) ws.length wc) :: bN hv hs :: bN (.slice (some ⟨gw, ow, none⟩) ws.length wc) ws :: blk b1 #[.int .i64 o] 3 :: blk b2 #[.pointer (some ⟨q, 0, none⟩)] 74 :: blk b5 #[.int .i64 k] 3 :: l) := hs12
      have h2 := h1.rm2.rm2
      show Sat B D W12 (_ :: _ :: _ :: _ :: _ :: _ :: _ :: aI 3 1 _ (bt ++ [x.o]).length ((bt ++ [x.o]).map (Value.int .i64)) :: l)
      rw [List.length_append, List.map_append]
      exact h2.rot26)
     clear hs12
     go_wp2_with fail
     go_roundw
     case rel => exact ⟨j + 1, _, by go_num, by omega, by rw [HT.out, ← List.append_assoc, DU.out]; exact vY.out⟩
     case measure => simp [intOf]; omega
  ·have hii : ¬ ((j : Int) < (N : Int)) := by omega
   have HJ := Eh (show j = N by omega)
   rw [HJ.out] at vg
   clear HJ
   go_wp2_with fail
   go_end0
   exact ⟨_, rfl, vg.out⟩
theorem jo {Q : Qm Clm} {o : Int} (h : bJ Q.waits o = none) : db RC Q o = [] := by unfold db; rw [h]
theorem jx {Q : Qm Clm} {o : Int} {k : Nat} {e : Ent Clm} (h : bJ Q.waits o = some k) (he : Q.waits[k]? = some e) : db RC Q o = ((Q.held ++ Q.waits.take k).filter (bd RC o e.c)).map (fun e => e.o) := by unfold db; rw [h]; dsimp only; rw [he]
theorem qq {B w : World} {D : PH} {l : List HP} {q : Nat} {Q : Qm Clm} (o : Int) (hD : EnvD D) (hM : Q.held.length + Q.waits.length ≤ 100000) (h : Sat B D w (bZ D q Q :: l)) :
  Calls Tryz.prog 64 #[.pointer (some ⟨q, 0, none⟩), .int .i64 o] w fun r w' => ∃ u, r = .returned u ∧ Sat B D w' (cj u (cC (db RC Q o)) :: bZ D q Q :: l) := by
 obtain ⟨W0, hW0, hs0⟩ := cG h #[.pointer (some ⟨q, 0, none⟩)] #[.int .i64 o] 74 3
 have hs1 : Sat B D W0 (bZ D q Q :: blk w.heap.size #[.pointer (some ⟨q, 0, none⟩)] 74 :: blk (w.heap.size + 1) #[.int .i64 o] 3 :: l) := hs0.front 2 rfl
 have xB := Eh hW0
 have wt := Eh hs1
 have HW := Eh (jD o hs1)
 have HD := Eh hD
 obtain ⟨d2, _⟩ := aK (hs1.blk 1 rfl)
 obtain ⟨d1, _⟩ := aK (hs1.blk 2 rfl)
 clear h hW0 hs0 hs1 hD
 cases hwa : bJ Q.waits o with
 | none =>
  have HR := Eh (show cC (db RC Q o) = [] by rw [jo hwa]; rfl)
  have hk : cz (ofE o) Q.waits = -1 := by
   unfold bJ at hwa
   unfold cz; rw [hwa]
  rw [hk] at HW
  clear hwa hk
  go_enter Tryz.func64, Tryz.ntmps64
  go_upto_region 1 with fail
  rw [← xB.out]
  clear xB
  generalize w.heap.size + 1 = b1 at *
  generalize w.heap.size = b2 at *
  go_wp2_with (go_at_call 82; refine HW.out.mono ?_; rintro e1 w1 ⟨rfl, hk1⟩; have uX := Eh (wt.out.kept hk1); clear hk1 HW wt d1 d2)
  go_ret
  refine ⟨_, rfl, ?_⟩
  rw [HR.out]
  exact ((uX.out.alloc _ _).drop.rm2.swap.drop).own_nil 3 1
 | some k =>
  have hlt : k < Q.waits.length := by
   unfold bJ at hwa
   exact (List.findIdx?_eq_some_iff_getElem.1 hwa).1
  have hk : cz (ofE o) Q.waits = (k : Int) := by
   unfold bJ at hwa
   unfold cz; rw [hwa]
  rw [hk] at HW
  obtain ⟨y, hy⟩ : ∃ y, Q.waits[k]? = some y := ⟨Q.waits[k], List.getElem?_eq_getElem hlt⟩
  have yS := Eh (jx hwa hy)
  have HY := Eh hy
  clear hwa hk hy
  go_enter Tryz.func64, Tryz.ntmps64
  go_upto_region 1 with fail
  rw [← xB.out]
  clear xB
  generalize w.heap.size + 1 = b1 at *
  generalize w.heap.size = b2 at *
  go_upto_region 4 with (go_at_call 82; refine HW.out.mono ?_; rintro e1 w1 ⟨rfl, hk1⟩; have uX := Eh ((wt.out.kept hk1).alloc #[.int .i64 k] 3); clear hk1 HW wt d1 d2)
  obtain ⟨W2, hW2, hs2⟩ := Sat.hide uX.out
  rw [← hW2]
  clear hW2 uX
  generalize w1.heap.size = b5 at hs2 ⊢
  have uY := Eh (hs2.alloc #[.slice none 0 0] 42)
  obtain ⟨d5, _⟩ := aK (hs2.blk 0 rfl)
  clear hs2
  go_upto_region 7 with fail
  obtain ⟨W3, hW3, hs3⟩ := Sat.hide uY.out
  rw [← hW3]
  clear hW3 uY d5
  generalize W2.heap.size = b6 at hs3 ⊢
  have hs4 : Sat B D W3 (bZ D q Q :: cj (.slice none 0 0) [] :: blk b6 #[.slice none 0 0] 42 :: blk b5 #[.int .i64 k] 3 :: blk b2 #[.pointer (some ⟨q, 0, none⟩)] 74 :: blk b1 #[.int .i64 o] 3 :: l) := (hs3.own_nil 3 1).front 3 rfl
  clear hs3
  obtain ⟨hv, wv, hs, ws, hr1, hr2, h1⟩ := aU hs4
  obtain ⟨ha, hc, rfl⟩ := (h1.front 1 rfl).own_shape
  obtain ⟨wa, wc, rfl⟩ := (h1.front 2 rfl).own_shape
  obtain ⟨en, hen, hene⟩ : ∃ x, ws[k]? = some x ∧ aE x = y := by
   have hx0 := HY.out
   rw [← hr2.1, List.getElem?_map] at hx0
   cases hxx : ws[k]? with
   | none => rw [hxx] at hx0; cases hx0
   | some x => rw [hxx] at hx0; exact ⟨x, rfl, Option.some.inj hx0⟩
  have hl1 : hs.length = Q.held.length := by rw [← hr1.1, List.length_map]
  have hl2 : ws.length = Q.waits.length := by rw [← hr2.1, List.length_map]
  have hkw : k < ws.length := by omega
  have hlb : hs.length + ws.length ≤ 100000 := by omega
  clear hl1 hl2
  have h2 : Sat B D W3 (jN q b1 b2 b5 b6 (.slice ha hs.length hc) (.slice wa ws.length wc) (.slice none 0 0) hs ws o k [] l) := h1.rev5
  have Ae := Eh hen
  have CO := Eh hene
  have wL := Eh hr1
  have vZ := Eh hr2
  have Al := Eh (tQ (av := .slice ha hs.length hc) (zs := hs) HD.out
   hr1.2 (hr2.2 en (List.mem_of_getElem? hen))
   hen (by rw [List.length_nil]; omega) (fun W Y hY => (hY.own 1 rfl).rd) h2)
  have hbl1 : ([] ++ bM hs o (aE en).c hs.length).length ≤ hs.length := by rw [List.nil_append]; exact eV _ _ _ _
  obtain ⟨c0, c1, c2, c3, c4, c5, cf⟩ := aX (h2.blk 0 rfl)
  obtain ⟨d2, _⟩ := aK (h2.blk 4 rfl)
  clear h1 h2 hs4 hr1 hr2 hen hene
  go_upto_region 9 with (go_at_call 105; refine Al.out.mono ?_; rintro e5 w5 ⟨ov5, rfl, hs5⟩; have uZ := Eh hs5; clear hs5 Al c0 c1 c2 c3 c4 c5 cf d2)
  have Dp := Eh (tQ (w := w5.drew) (av := .slice wa k wc) (zs := ws.take k) HD.out
   (fun x hx => vZ.out.2 x (List.mem_of_mem_take hx)) (vZ.out.2 en (List.mem_of_getElem? Ae.out))
   Ae.out (by rw [List.length_take]; omega) (fun W Y hY => Rd.takeE bT (hY.own 2 rfl).rd (m := k) (by omega) rfl) uZ.out.drew)
  obtain ⟨c0, c1, c2, c3, c4, c5, cf⟩ := aX (uZ.out.blk 0 rfl)
  obtain ⟨d2, _⟩ := aK (uZ.out.blk 4 rfl)
  obtain ⟨d5, _⟩ := aK (uZ.out.blk 5 rfl)
  have hws : ws.length ≤ wc := by obtain ⟨_, _, _, _, hx, hy, _⟩ := (uZ.out.own 2 rfl).rd; cases hx; exact hy
  have hb1 : (k : Int) ≤ (wc : Int) := by omega
  have hmap : Option.map (fun x => Addr.add x 0) wa = wa := by rcases (uZ.out.own 2 rfl).2.2 with ⟨hx, _⟩ | ⟨g, c2, cur, hx, _⟩ <;> rw [(Value.slice.inj hx).1] <;> first | rfl | simp [cn]
  generalize hnw : ws.length = nw at c5
  have hbl2 : ([] ++ bM hs o (aE en).c hs.length ++ bM (ws.take k) o (aE en).c (ws.take k).length).length ≤ 1000000 := by
   rw [List.length_append, List.nil_append]
   have h0 := eV hs o (aE en).c hs.length
   have := eV (ws.take k) o (aE en).c (ws.take k).length
   rw [List.length_take] at this
   rw [List.length_take]
   omega
  have B1 := Eh (show [] ++ bM hs o (aE en).c hs.length ++ bM (ws.take k) o (aE en).c (ws.take k).length = db RC Q o by
   rw [yS.out, List.nil_append]
   unfold bM
   rw [List.take_length, List.take_length, wL.out.1, List.map_take, vZ.out.1, CO.out, List.filter_append, List.map_append])
  clear hws hnw hbl1
  refine ag [(0, false, 7), (1, false, 7), (2, false, 7), (3, false, 7), (4, false, 7), (5, false, 7), (6, false, 7), (7, true, 0)] (by kernel_rfl) (by kernel_rfl) ?_
  iterate 7 (refine af rfl rfl (fun K hK => ?_); go_simp; refine hK _ ?_; clear hK K)
  refine al rfl ?_
  refine aw rfl (fun K hK => ?_)
  go_simp
  refine Dp.out.mono ?_
  rintro e6 w6 ⟨ov6, rfl, hs6⟩
  have vi := Eh hs6
  clear hs6 Dp uZ c0 c1 c2 c3 c4 c5 cf d2 d5 hb1 hmap
  obtain ⟨oa, oc, rfl⟩ := (vi.out.front 7 rfl).own_shape
  refine hK _ _ ?_
  clear hK K
  refine wpList_nil ?_
  refine And.intro ?_ ?_
  ·go_simp
  refine ar ?_
  rw [B1.out] at vi hbl2
  obtain ⟨bl, hbl⟩ : ∃ bl, bl = db RC Q o := ⟨_, rfl⟩
  rw [← hbl] at vi hbl2
  have CP := Eh hbl
  clear hbl B1 yS
  obtain ⟨d6, _⟩ := aK (vi.out.blk 6 rfl)
  have hs7 := vi.out.front 7 rfl
  have Dq := Eh (s8 (by omega) hs7)
  clear hs7 vi
  go_upto_region 11 with (go_at_call 106; refine Dq.out.mono ?_; rintro e7 w7 ⟨rfl, hs8⟩; have vw := Eh hs8; clear hs8 Dq d6)
  obtain ⟨d6, _⟩ := aK (vw.out.blk 7 rfl)
  have As := Eh (pj (by omega) vw.out)
  clear vw
  go_wp2_with (go_at_call 107; refine As.out.mono ?_; rintro e8 w8 ⟨u, rfl, hs9⟩; have vu := Eh hs9; clear hs9 As d6)
  go_ret
  have h9 : Sat B D w8 (cj u (cC bl) :: qbC q (.slice ha hs.length hc) (.slice wa ws.length wc) :: bN (.slice ha hs.length hc) hs :: bN (.slice wa ws.length wc) ws :: blk b1 #[.int .i64 o] 3 :: blk b2 #[.pointer (some ⟨q, 0, none⟩)] 74 :: blk b5 #[.int .i64 k] 3 :: blk b6 #[.slice oa _ oc] 42 :: l) := vu.out
  refine ⟨_, rfl, ?_⟩
  rw [← CP.out]
  exact (cB wL.out vZ.out h9.end8).swap
def BlocksL (B : World) (D : PH) (l : List HP) (L : Nat) (ts : List (List Bool)) (room : Int) (m : LkM) (os : List Int) (e : Ending) (w' : World) : Prop := ∃ u, e = .returned u ∧ Sat B D w' (cj u os :: cd D L ts room m :: l)
section
variable {B w : World} {D : PH} {l : List HP} {L : Nat} {ts : List (List Bool)} {room : Int} {m : LkM}
theorem gu (o : Int) (hD : EnvD D) (hM : m.q.held.length + m.q.waits.length ≤ 100000) (h : Sat B D w (cd D L ts room m :: l)) :
  Calls Tryz.prog 28 #[.pointer (some ⟨L, 0, none⟩), .int .i64 o] w (BlocksL B D l L ts room m (cC (db RC m.q o))) := by
 obtain ⟨q, tv, rv, rs, ht, hr, h1⟩ := ch h
 have HT := Eh ht
 have HR := Eh hr
 obtain ⟨c0, c1, c2, c3, _⟩ := bF (h1.blk 0 rfl)
 have HB := Eh (qq o hD hM h1.swap)
 clear h ht hr h1 hD
 generalize cC (db RC m.q o) = os at *
 go_enter Tryz.func28, Tryz.ntmps28
 go_wp2_with (go_at_call 64; refine HB.out.mono ?_; rintro e1 w1 ⟨u, rfl, hs1⟩; have uX := Eh hs1; clear hs1 HB c0 c1 c2 c3)
 go_ret
 exact ⟨_, rfl, (bQ HT.out HR.out (((uX.out.front 3 rfl).front 2 rfl).front 3 rfl)).swap⟩
end
end Go.Proofs.YtgljdkjepdknnaaGreatDoor
