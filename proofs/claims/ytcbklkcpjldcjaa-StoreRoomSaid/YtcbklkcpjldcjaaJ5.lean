/- Joined texts: The tree in memory: nodes in a row, each with its keys, what stands there, and the nodes below. The tree: contracts of slot, give, size, below, Len, Depth, Used, Room. The tree: contracts of give, size, below. -/
import Derived.Test.YtcbklkcpjldcjaaJ3
import Derived.Test.YtcbklkcpjldcjaaJ4
/- The tree in memory: nodes in a row, each with its keys, what stands there, and the nodes below. -/
namespace Go.Proofs.Ytcbklkcpjldcjaa
open Go.ChangeShapes Go.WideShapes Go.ChangeAt Go.RowKit
set_option maxRecDepth 100000
set_option linter.unusedSimpArgs false

abbrev tT : TypeId := 100
abbrev tN : TypeId := 110
abbrev tV : TypeId := 23
abbrev tI : TypeId := 3
abbrev tW : TypeId := 74
theorem infoNode : (Try.prog.info? tN).map (fun i => (i.zero, i.size, i.bytes)) = some (some (.agg #[.bool false, .slice none 0 0, .slice none 0 0, .slice none 0 0]), 4, 80) := by kernel_rfl

/-- what stands at a key: a place, and a row's header -/
structure SlotT where
  kept : Bool
  num : Int
  ro : Option Addr
  rn : Nat
  rc : Nat
deriving DecidableEq
abbrev VT := SlotT
def SlotT.none : SlotT := ⟨false, 0, Option.none, 0, 0⟩
abbrev SlotT.v (v : SlotT) : Value := .agg #[.bool v.kept, .int .i64 v.num, .slice v.ro v.rn v.rc]
def vcells (v : VT) : List Value := [.bool v.kept, .int .i64 v.num, .slice v.ro v.rn v.rc]
theorem vlen (v : VT) : (vcells v).length = 3 := rfl
theorem vone (v : VT) : ∀ u ∈ vcells v, u.oneCell' = true := by intro u hu; simp [vcells] at hu; rcases hu with rfl | rfl | rfl <;> rfl
def ncells (n : Nat) : List Value := [.int .i64 n]
theorem nlen (n : Nat) : (ncells n).length = 1 := rfl
theorem none_ (n : Nat) : ∀ u ∈ ncells n, u.oneCell' = true := by intro u hu; simp [ncells] at hu; subst hu; rfl

structure NodeM where
  leaf : Bool
  keys : List Val
  vals : List VT
  kids : List Nat
structure NodeV where
  kv : Value
  vv : Value
  dv : Value
abbrev NP := NodeV × NodeM
def nodeCells (p : NP) : List Value := [.bool p.2.leaf, p.1.kv, p.1.vv, p.1.dv]
theorem nodeLen (p : NP) : (nodeCells p).length = 4 := rfl
abbrev keysP (kv : Value) (ks : List Val) : HP := ownS tV 3 kv ks.length (ks.flatMap Val.cells)
abbrev valsP (vv : Value) (vs : List VT) : HP := ownS tW 3 vv vs.length (vs.flatMap vcells)
abbrev kidsP (dv : Value) (ds : List Nat) : HP := ownS tI 1 dv ds.length (ds.flatMap ncells)
def nodeP (p : NP) : HP := group [keysP p.1.kv p.2.keys, valsP p.1.vv p.2.vals, kidsP p.1.dv p.2.kids]

/-- a tree's numbers -/
structure Num where
  root : Int
  many : Int
  depth : Int
def treeCells (nv fv : Value) (k : Num) : Array Value := #[nv, fv, .int .i64 k.root, .int .i64 k.many, .int .i64 k.depth]

theorem row_len {w : World} {e : TypeId} {z g N c n : Nat} {xs : List Value} (h : Own w e z (.slice (some ⟨g, 0, none⟩) N c) n xs) : N = n := by
  obtain ⟨_, _, hv, _⟩ := h.rd.2.2
  cases hv
  rfl
/-- a tree at t -/
def TreeS (B : World) (D : PH) (w : World) (t : Nat) (nv fv : Value) (ns : List NP) (fr : List Nat) (k : Num) (l : List HP) : Prop :=
  Sat B D w (blk t (treeCells nv fv k) tT :: ownS tN 4 nv ns.length (ns.flatMap nodeCells) :: kidsP fv fr :: group (ns.map nodeP) :: l)

section
variable {B w w' : World} {D : PH} {t : Nat} {nv fv : Value} {ns : List NP} {fr : List Nat} {k : Num} {l : List HP}

theorem TreeS.drew (h : TreeS B D w t nv fv ns fr k l) : TreeS B D w.drew t nv fv ns fr k l := Sat.drew h
theorem TreeS.kept (h : TreeS B D w t nv fv ns fr k l) (hk : Kept (fun _ => False) w w') : TreeS B D w' t nv fv ns fr k l := Sat.kept h hk
theorem TreeS.tcells (h : TreeS B D w t nv fv ns fr k l) : w.cell? ⟨t, 0, none⟩ = some nv ∧ w.cell? ⟨t, 1, none⟩ = some fv ∧ w.cell? ⟨t, 2, none⟩ = some (.int .i64 k.root) ∧ w.cell? ⟨t, 3, none⟩ = some (.int .i64 k.many) ∧ w.cell? ⟨t, 4, none⟩ = some (.int .i64 k.depth) ∧ ∀ j, w.frozen? ⟨t, j, none⟩ = false :=
  cells5 (Sat.blk h 0 rfl)
theorem TreeS.nv_some (h : TreeS B D w t nv fv ns fr k l) (hp : 0 < ns.length) : ∃ g c, nv = .slice (some ⟨g, 0, none⟩) ns.length c ∧ ns.length ≤ c ∧ c ≤ maxLen := (Sat.own h 1 rfl).form hp
theorem TreeS.nv_any (h : TreeS B D w t nv fv ns fr k l) : ∃ o c, nv = .slice o ns.length c ∧ ns.length ≤ maxLen := by
  obtain ⟨_, h2, o, c, h3, _⟩ := (Sat.own h 1 rfl).rd
  exact ⟨o, c, h3, h2⟩
theorem TreeS.fv_any (h : TreeS B D w t nv fv ns fr k l) : ∃ o c, fv = .slice o fr.length c ∧ fr.length ≤ maxLen := by
  obtain ⟨_, h2, o, c, h3, _⟩ := (Sat.own h 2 rfl).rd
  exact ⟨o, c, h3, h2⟩
theorem TreeS.free_rd (h : TreeS B D w t nv fv ns fr k l) : Rd w 1 fv fr.length (fr.flatMap ncells) := (Sat.own h 2 rfl).rd
theorem TreeS.node_cells {N g c : Nat} (h : TreeS B D w t (.slice (some ⟨g, 0, none⟩) N c) fv ns fr k l) {i : Nat} {p : NP} (hi : ns[i]? = some p) :
    w.cell? ⟨g, i * 4, none⟩ = some (.bool p.2.leaf) ∧ w.cell? ⟨g, i * 4 + 1, none⟩ = some p.1.kv ∧ w.cell? ⟨g, i * 4 + 2, none⟩ = some p.1.vv ∧ w.cell? ⟨g, i * 4 + 3, none⟩ = some p.1.dv ∧ ∀ j, w.frozen? ⟨g, j, none⟩ = false := by
  obtain rfl := row_len (Sat.own h 1 rfl)
  have ho := Sat.own h 1 rfl
  have f := fun j u hj => ho.cells _ _ (flat_get nodeLen ns i p hi j u hj)
  obtain ⟨z, _, hr⟩ := ho.row
  exact ⟨f 0 _ rfl, f 1 _ rfl, f 2 _ rfl, f 3 _ rfl, hr.frozen⟩

theorem row_cells {N g c : Nat} (ho : Own w tN 4 (.slice (some ⟨g, 0, none⟩) N c) ns.length (ns.flatMap nodeCells)) {i : Nat} {p : NP} (hi : ns[i]? = some p) :
    w.cell? ⟨g, i * 4, none⟩ = some (.bool p.2.leaf) ∧ w.cell? ⟨g, i * 4 + 1, none⟩ = some p.1.kv ∧ w.cell? ⟨g, i * 4 + 2, none⟩ = some p.1.vv ∧ w.cell? ⟨g, i * 4 + 3, none⟩ = some p.1.dv ∧ ∀ j, w.frozen? ⟨g, j, none⟩ = false := by
  obtain rfl := row_len ho
  have f := fun j u hj => ho.cells _ _ (flat_get nodeLen ns i p hi j u hj)
  obtain ⟨z, _, hr⟩ := ho.row
  exact ⟨f 0 _ rfl, f 1 _ rfl, f 2 _ rfl, f 3 _ rfl, hr.frozen⟩
/-- one node by itself -/
theorem TreeS.focus (h : TreeS B D w t nv fv ns fr k l) {i : Nat} {p : NP} (hi : ns[i]? = some p) :
    Sat B D w (keysP p.1.kv p.2.keys :: valsP p.1.vv p.2.vals :: kidsP p.1.dv p.2.kids :: blk t (treeCells nv fv k) tT :: ownS tN 4 nv ns.length (ns.flatMap nodeCells) :: kidsP fv fr :: group ((ns.map nodeP).eraseIdx i) :: l) := by
  have h1 : Sat B D w (ns.map nodeP ++ (blk t (treeCells nv fv k) tT :: ownS tN 4 nv ns.length (ns.flatMap nodeCells) :: kidsP fv fr :: l)) := by
    refine Sat.ungroup (Sat.perm h ?_)
    exact (List.perm_middle (l₁ := [blk t (treeCells nv fv k) tT, ownS tN 4 nv ns.length (ns.flatMap nodeCells), kidsP fv fr]) (a := group (ns.map nodeP)) (l₂ := l))
  have hmi : (ns.map nodeP)[i]? = some (nodeP p) := by rw [List.getElem?_map, hi]; rfl
  have h2 := h1.perm ((perm_get _ i _ hmi).append_right _)
  have h3 := h2.ungroup
  have h4 : Sat B D w ([keysP p.1.kv p.2.keys, valsP p.1.vv p.2.vals, kidsP p.1.dv p.2.kids] ++ ((ns.map nodeP).eraseIdx i ++ (blk t (treeCells nv fv k) tT :: ownS tN 4 nv ns.length (ns.flatMap nodeCells) :: kidsP fv fr :: l))) := h3
  have h5 := (h4.perm (List.perm_append_comm_assoc _ _ _)).togroup
  exact h5.perm (List.perm_middle (l₁ := [keysP p.1.kv p.2.keys, valsP p.1.vv p.2.vals, kidsP p.1.dv p.2.kids, blk t (treeCells nv fv k) tT, ownS tN 4 nv ns.length (ns.flatMap nodeCells), kidsP fv fr]) (a := group ((ns.map nodeP).eraseIdx i)) (l₂ := l)).symm
/-- and back -/
theorem TreeS.unfocus {i : Nat} {p p' : NP} (hi : ns[i]? = some p)
    (h : Sat B D w (keysP p'.1.kv p'.2.keys :: valsP p'.1.vv p'.2.vals :: kidsP p'.1.dv p'.2.kids :: blk t (treeCells nv fv k) tT :: ownS tN 4 nv ns.length ((ns.set i p').flatMap nodeCells) :: kidsP fv fr :: group ((ns.map nodeP).eraseIdx i) :: l)) :
    TreeS B D w t nv fv (ns.set i p') fr k l := by
  have h5 := (h.perm (List.perm_middle (l₁ := [keysP p'.1.kv p'.2.keys, valsP p'.1.vv p'.2.vals, kidsP p'.1.dv p'.2.kids, blk t (treeCells nv fv k) tT, ownS tN 4 nv ns.length ((ns.set i p').flatMap nodeCells), kidsP fv fr]) (a := group ((ns.map nodeP).eraseIdx i)) (l₂ := l))).ungroup
  have h4 := h5.perm (List.perm_append_comm_assoc (l₂ := [keysP p'.1.kv p'.2.keys, valsP p'.1.vv p'.2.vals, kidsP p'.1.dv p'.2.kids]) ((ns.map nodeP).eraseIdx i) (blk t (treeCells nv fv k) tT :: ownS tN 4 nv ns.length ((ns.set i p').flatMap nodeCells) :: kidsP fv fr :: l))
  have h3 : Sat B D w (nodeP p' :: ((ns.map nodeP).eraseIdx i ++ (blk t (treeCells nv fv k) tT :: ownS tN 4 nv ns.length ((ns.set i p').flatMap nodeCells) :: kidsP fv fr :: l))) := h4.togroup
  have hmi : (ns.map nodeP)[i]? = some (nodeP p) := by rw [List.getElem?_map, hi]; rfl
  have h2 : Sat B D w ((ns.set i p').map nodeP ++ (blk t (treeCells nv fv k) tT :: ownS tN 4 nv ns.length ((ns.set i p').flatMap nodeCells) :: kidsP fv fr :: l)) := by
    rw [List.map_set]
    exact h3.perm ((perm_set (nodeP p') _ i _ hmi).symm.append_right _)
  have h1 := h2.togroup.perm (List.perm_middle (l₁ := [blk t (treeCells nv fv k) tT, ownS tN 4 nv ns.length ((ns.set i p').flatMap nodeCells), kidsP fv fr]) (a := group ((ns.set i p').map nodeP)) (l₂ := l)).symm
  unfold TreeS
  rw [List.length_set]
  exact h1

theorem TreeS.keys_rd (h : TreeS B D w t nv fv ns fr k l) {i : Nat} {p : NP} (hi : ns[i]? = some p) : Rd w 3 p.1.kv p.2.keys.length (p.2.keys.flatMap Val.cells) := (Sat.own (h.focus hi) 0 rfl).rd
theorem TreeS.vals_rd (h : TreeS B D w t nv fv ns fr k l) {i : Nat} {p : NP} (hi : ns[i]? = some p) : Rd w 3 p.1.vv p.2.vals.length (p.2.vals.flatMap vcells) := (Sat.own (h.focus hi) 1 rfl).rd
theorem TreeS.kids_rd (h : TreeS B D w t nv fv ns fr k l) {i : Nat} {p : NP} (hi : ns[i]? = some p) : Rd w 1 p.1.dv p.2.kids.length (p.2.kids.flatMap ncells) := (Sat.own (h.focus hi) 2 rfl).rd

theorem node_set (j : Nat) (p p' : NP) (u : Value) (hj : j < 4) (hp : (nodeCells p).set j u = nodeCells p') : ∀ (ns : List NP) (i : Nat), ns[i]? = some p → (ns.flatMap nodeCells).set (i * 4 + j) u = (ns.set i p').flatMap nodeCells
  | [], i, h => by simp at h
  | x :: ns, 0, h => by
    simp only [List.getElem?_cons_zero, Option.some.injEq] at h
    subst h
    rw [Nat.zero_mul, Nat.zero_add, List.flatMap_cons, List.set_cons_zero, List.flatMap_cons, List.set_append_left _ _ (by rw [nodeLen]; exact hj), hp]
  | x :: ns, i + 1, h => by
    rw [List.flatMap_cons, List.set_cons_succ, List.flatMap_cons, List.set_append_right _ _ (by rw [nodeLen]; omega), nodeLen, show (i + 1) * 4 + j - 4 = i * 4 + j by omega, node_set j p p' u hj hp ns i (by simpa using h)]

/-- the keys of a node are others now -/
theorem TreeS.set_keys {N g c : Nat} {i : Nat} {p : NP} (hi : ns[i]? = some p) {kv : Value} {ks : List Val}
    (h : Sat B D w (keysP kv ks :: valsP p.1.vv p.2.vals :: kidsP p.1.dv p.2.kids :: blk t (treeCells (.slice (some ⟨g, 0, none⟩) N c) fv k) tT :: ownS tN 4 (.slice (some ⟨g, 0, none⟩) N c) ns.length (ns.flatMap nodeCells) :: kidsP fv fr :: group ((ns.map nodeP).eraseIdx i) :: l)) :
    TreeS B D (w.setCell ⟨g, i * 4 + 1, none⟩ kv) t (.slice (some ⟨g, 0, none⟩) N c) fv (ns.set i (⟨kv, p.1.vv, p.1.dv⟩, { p.2 with keys := ks })) fr k l := by
  obtain rfl := row_len (Sat.own h 4 rfl)
  have ho := h.own_one
  have h1 := h.modify 4 rfl (fun _ hh => hh.own_set (i * 4 + 1) kv ho)
  simp only [List.set_cons_succ, List.set_cons_zero] at h1
  rw [node_set 1 p (⟨kv, p.1.vv, p.1.dv⟩, { p.2 with keys := ks }) kv (by omega) rfl ns i hi] at h1
  exact TreeS.unfocus hi h1
theorem TreeS.set_vals {N g c : Nat} {i : Nat} {p : NP} (hi : ns[i]? = some p) {vv : Value} {vs : List VT}
    (h : Sat B D w (valsP vv vs :: keysP p.1.kv p.2.keys :: kidsP p.1.dv p.2.kids :: blk t (treeCells (.slice (some ⟨g, 0, none⟩) N c) fv k) tT :: ownS tN 4 (.slice (some ⟨g, 0, none⟩) N c) ns.length (ns.flatMap nodeCells) :: kidsP fv fr :: group ((ns.map nodeP).eraseIdx i) :: l)) :
    TreeS B D (w.setCell ⟨g, i * 4 + 2, none⟩ vv) t (.slice (some ⟨g, 0, none⟩) N c) fv (ns.set i (⟨p.1.kv, vv, p.1.dv⟩, { p.2 with vals := vs })) fr k l := by
  obtain rfl := row_len (Sat.own h 4 rfl)
  have ho := h.own_one
  have h1 := h.swap.modify 4 rfl (fun _ hh => hh.own_set (i * 4 + 2) vv ho)
  simp only [List.set_cons_succ, List.set_cons_zero] at h1
  rw [node_set 2 p (⟨p.1.kv, vv, p.1.dv⟩, { p.2 with vals := vs }) vv (by omega) rfl ns i hi] at h1
  exact TreeS.unfocus hi h1
theorem TreeS.set_kids {N g c : Nat} {i : Nat} {p : NP} (hi : ns[i]? = some p) {dv : Value} {ds : List Nat}
    (h : Sat B D w (kidsP dv ds :: keysP p.1.kv p.2.keys :: valsP p.1.vv p.2.vals :: blk t (treeCells (.slice (some ⟨g, 0, none⟩) N c) fv k) tT :: ownS tN 4 (.slice (some ⟨g, 0, none⟩) N c) ns.length (ns.flatMap nodeCells) :: kidsP fv fr :: group ((ns.map nodeP).eraseIdx i) :: l)) :
    TreeS B D (w.setCell ⟨g, i * 4 + 3, none⟩ dv) t (.slice (some ⟨g, 0, none⟩) N c) fv (ns.set i (⟨p.1.kv, p.1.vv, dv⟩, { p.2 with kids := ds })) fr k l := by
  obtain rfl := row_len (Sat.own h 4 rfl)
  have ho := h.own_one
  have h1 := h.rot.modify 4 rfl (fun _ hh => hh.own_set (i * 4 + 3) dv ho)
  simp only [List.set_cons_succ, List.set_cons_zero] at h1
  rw [node_set 3 p (⟨p.1.kv, p.1.vv, dv⟩, { p.2 with kids := ds }) dv (by omega) rfl ns i hi] at h1
  exact TreeS.unfocus hi h1

/-- a node made anew -/
def freshP (leaf : Bool) : NP := (⟨.slice none 0 0, .slice none 0 0, .slice none 0 0⟩, ⟨leaf, [], [], []⟩)
/-- a node is made anew -/
theorem TreeS.reset {N g c : Nat} (h : TreeS B D w t (.slice (some ⟨g, 0, none⟩) N c) fv ns fr k l) {i : Nat} {p : NP} (hi : ns[i]? = some p) (leaf : Bool) :
    TreeS B D ((((w.setCell ⟨g, i * 4, none⟩ (.bool leaf)).setCell ⟨g, i * 4 + 1, none⟩ (.slice none 0 0)).setCell ⟨g, i * 4 + 2, none⟩ (.slice none 0 0)).setCell ⟨g, i * 4 + 3, none⟩ (.slice none 0 0)) t (.slice (some ⟨g, 0, none⟩) N c) fv
      (ns.set i (freshP leaf)) fr k l := by
  obtain rfl := row_len (Sat.own h 1 rfl)
  have h1 := ((h.focus hi).drop.drop.drop).modify 1 rfl (fun _ hh => (((hh.own_set (i * 4) (.bool leaf) rfl).own_set (i * 4 + 1) (.slice none 0 0) rfl).own_set (i * 4 + 2) (.slice none 0 0) rfl).own_set (i * 4 + 3) (.slice none 0 0) rfl)
  simp only [List.set_cons_succ, List.set_cons_zero] at h1
  have e : ((((ns.flatMap nodeCells).set (i * 4) (.bool leaf)).set (i * 4 + 1) (.slice none 0 0)).set (i * 4 + 2) (.slice none 0 0)).set (i * 4 + 3) (.slice none 0 0) = (ns.set i (freshP leaf)).flatMap nodeCells := by
    have hlt := (List.getElem?_eq_some_iff.1 hi).1
    obtain ⟨⟨kv, vv, dv⟩, ⟨lf, ks, vs, ds⟩⟩ := p
    have e0 := node_set 0 (⟨kv, vv, dv⟩, ⟨lf, ks, vs, ds⟩) (⟨kv, vv, dv⟩, ⟨leaf, [], [], []⟩) (.bool leaf) (by omega) rfl ns i hi
    rw [Nat.add_zero] at e0
    have g : ∀ q : NP, (ns.set i q)[i]? = some q := fun q => List.getElem?_set_self hlt
    rw [e0, node_set 1 (⟨kv, vv, dv⟩, ⟨leaf, [], [], []⟩) (⟨.slice none 0 0, vv, dv⟩, ⟨leaf, [], [], []⟩) _ (by omega) rfl _ i (g _), List.set_set,
      node_set 2 (⟨.slice none 0 0, vv, dv⟩, ⟨leaf, [], [], []⟩) (⟨.slice none 0 0, .slice none 0 0, dv⟩, ⟨leaf, [], [], []⟩) _ (by omega) rfl _ i (g _), List.set_set,
      node_set 3 (⟨.slice none 0 0, .slice none 0 0, dv⟩, ⟨leaf, [], [], []⟩) (freshP leaf) (.slice none 0 0) (by omega) rfl _ i (g _), List.set_set]
  rw [e] at h1
  exact TreeS.unfocus (p' := (freshP leaf)) hi (((h1.own_nil tI 1).own_nil tW 3).own_nil tV 3)
/-- a node more -/
theorem TreeS.push {g c : Nat} (leaf : Bool)
    (h1 : Sat B D w' (ownS tN 4 (.slice (some ⟨g, 0, none⟩) (ns.length + 1) c) (ns.length + 1) (ns.flatMap nodeCells ++ [.bool leaf, .slice none 0 0, .slice none 0 0, .slice none 0 0]) :: blk t (treeCells nv fv k) tT :: kidsP fv fr :: group (ns.map nodeP) :: l)) :
    TreeS B D (w'.setCell ⟨t, 0, none⟩ (.slice (some ⟨g, 0, none⟩) (ns.length + 1) c)) t (.slice (some ⟨g, 0, none⟩) (ns.length + 1) c) fv (ns ++ [freshP leaf]) fr k l := by
  have h2 := (h1.swap.set 0 (.slice (some ⟨g, 0, none⟩) (ns.length + 1) c))
  have h3 := ((h2.own_nil tI 1).own_nil tW 3).own_nil tV 3
  generalize hc : [Value.bool leaf, .slice none 0 0, .slice none 0 0, .slice none 0 0] = cs at *
  have h4 : Sat B D (w'.setCell ⟨t, 0, none⟩ (.slice (some ⟨g, 0, none⟩) (ns.length + 1) c)) (nodeP (freshP leaf) :: blk t (treeCells (.slice (some ⟨g, 0, none⟩) (ns.length + 1) c) fv k) tT :: ownS tN 4 (.slice (some ⟨g, 0, none⟩) (ns.length + 1) c) (ns.length + 1) (ns.flatMap nodeCells ++ cs) :: kidsP fv fr :: group (ns.map nodeP) :: l) :=
    Sat.togroup (L := [keysP (.slice none 0 0) [], valsP (.slice none 0 0) [], kidsP (.slice none 0 0) []]) h3
  have h5 := (h4.perm (List.perm_middle (l₁ := [nodeP (freshP leaf), blk t (treeCells (.slice (some ⟨g, 0, none⟩) (ns.length + 1) c) fv k) tT, ownS tN 4 (.slice (some ⟨g, 0, none⟩) (ns.length + 1) c) (ns.length + 1) (ns.flatMap nodeCells ++ cs), kidsP fv fr]) (a := group (ns.map nodeP)) (l₂ := l))).ungroup
  have h6 : Sat B D (w'.setCell ⟨t, 0, none⟩ (.slice (some ⟨g, 0, none⟩) (ns.length + 1) c)) ((ns ++ [freshP leaf]).map nodeP ++ (blk t (treeCells (.slice (some ⟨g, 0, none⟩) (ns.length + 1) c) fv k) tT :: ownS tN 4 (.slice (some ⟨g, 0, none⟩) (ns.length + 1) c) (ns.length + 1) (ns.flatMap nodeCells ++ cs) :: kidsP fv fr :: l)) := by
    rw [List.map_append, List.append_assoc]
    exact h5
  have h7 := h6.togroup.perm (List.perm_middle (l₁ := [blk t (treeCells (.slice (some ⟨g, 0, none⟩) (ns.length + 1) c) fv k) tT, ownS tN 4 (.slice (some ⟨g, 0, none⟩) (ns.length + 1) c) (ns.length + 1) (ns.flatMap nodeCells ++ cs), kidsP fv fr]) (a := group ((ns ++ [freshP leaf]).map nodeP)) (l₂ := l)).symm
  unfold TreeS
  rw [List.length_append, List.flatMap_append]
  subst hc
  exact h7
/-- the free ones -/
theorem TreeS.set_free {fv' : Value} {fr' : List Nat} (h : TreeS B D w t nv fv ns fr k l) (f : ∀ l' : List HP, Sat B D w (kidsP fv fr :: l') → Sat B D w' (kidsP fv' fr' :: l')) :
    TreeS B D (w'.setCell ⟨t, 1, none⟩ fv') t nv fv' ns fr' k l := by
  have h1 := (Sat.modify h 2 rfl f)
  simp only [List.set_cons_succ, List.set_cons_zero] at h1
  exact h1.set 1 fv'
theorem TreeS.set_root (h : TreeS B D w t nv fv ns fr k l) (r : Int) : TreeS B D (w.setCell ⟨t, 2, none⟩ (.int .i64 r)) t nv fv ns fr { k with root := r } l := Sat.set h 2 _
theorem TreeS.set_many (h : TreeS B D w t nv fv ns fr k l) (r : Int) : TreeS B D (w.setCell ⟨t, 3, none⟩ (.int .i64 r)) t nv fv ns fr { k with many := r } l := Sat.set h 3 _
theorem TreeS.set_depth (h : TreeS B D w t nv fv ns fr k l) (r : Int) : TreeS B D (w.setCell ⟨t, 4, none⟩ (.int .i64 r)) t nv fv ns fr { k with depth := r } l := Sat.set h 4 _
theorem TreeS.hide (h : TreeS B D w t nv fv ns fr k l) : ∃ W, W = w ∧ TreeS B D W t nv fv ns fr k l := ⟨w, rfl, h⟩

/-! ### what is put in the place of something -/
theorem Sat.bring {X : HP} {L : List HP} (hs : Sat B D w (X :: L)) (i : Nat) {A : HP} (h : L[i]? = some A) : Sat B D w (X :: A :: L.eraseIdx i) := hs.perm ((perm_get L i A h).cons X)
theorem TreeS.put_keys {N g c : Nat} {i : Nat} {p : NP} (hi : ns[i]? = some p) {kv : Value} {ks : List Val}
    (h : Sat B D w (keysP kv ks :: blk t (treeCells (.slice (some ⟨g, 0, none⟩) N c) fv k) tT :: ownS tN 4 (.slice (some ⟨g, 0, none⟩) N c) ns.length (ns.flatMap nodeCells) :: kidsP fv fr :: group (ns.map nodeP) :: l)) :
    TreeS B D (w.setCell ⟨g, i * 4 + 1, none⟩ kv) t (.slice (some ⟨g, 0, none⟩) N c) fv (ns.set i (⟨kv, p.1.vv, p.1.dv⟩, { p.2 with keys := ks })) fr k l := by
  obtain rfl := row_len (Sat.own h 2 rfl)
  have h1 : TreeS B D w t (.slice (some ⟨g, 0, none⟩) ns.length c) fv ns fr k (keysP kv ks :: l) := h.perm (List.perm_middle (l₁ := [blk t (treeCells (.slice (some ⟨g, 0, none⟩) ns.length c) fv k) tT, ownS tN 4 (.slice (some ⟨g, 0, none⟩) ns.length c) ns.length (ns.flatMap nodeCells), kidsP fv fr, group (ns.map nodeP)]) (a := keysP kv ks) (l₂ := l)).symm
  have h2 := (h1.focus hi).drop.front 6 rfl
  simp only [List.eraseIdx_cons_succ, List.eraseIdx_cons_zero] at h2
  exact TreeS.set_keys hi h2
theorem TreeS.put_vals {N g c : Nat} {i : Nat} {p : NP} (hi : ns[i]? = some p) {vv : Value} {vs : List VT}
    (h : Sat B D w (valsP vv vs :: blk t (treeCells (.slice (some ⟨g, 0, none⟩) N c) fv k) tT :: ownS tN 4 (.slice (some ⟨g, 0, none⟩) N c) ns.length (ns.flatMap nodeCells) :: kidsP fv fr :: group (ns.map nodeP) :: l)) :
    TreeS B D (w.setCell ⟨g, i * 4 + 2, none⟩ vv) t (.slice (some ⟨g, 0, none⟩) N c) fv (ns.set i (⟨p.1.kv, vv, p.1.dv⟩, { p.2 with vals := vs })) fr k l := by
  obtain rfl := row_len (Sat.own h 2 rfl)
  have h1 : TreeS B D w t (.slice (some ⟨g, 0, none⟩) ns.length c) fv ns fr k (valsP vv vs :: l) := h.perm (List.perm_middle (l₁ := [blk t (treeCells (.slice (some ⟨g, 0, none⟩) ns.length c) fv k) tT, ownS tN 4 (.slice (some ⟨g, 0, none⟩) ns.length c) ns.length (ns.flatMap nodeCells), kidsP fv fr, group (ns.map nodeP)]) (a := valsP vv vs) (l₂ := l)).symm
  have h2 := ((h1.focus hi).swap.drop).front 6 rfl
  simp only [List.eraseIdx_cons_succ, List.eraseIdx_cons_zero] at h2
  exact TreeS.set_vals hi h2
theorem TreeS.put_kids {N g c : Nat} {i : Nat} {p : NP} (hi : ns[i]? = some p) {dv : Value} {ds : List Nat}
    (h : Sat B D w (kidsP dv ds :: blk t (treeCells (.slice (some ⟨g, 0, none⟩) N c) fv k) tT :: ownS tN 4 (.slice (some ⟨g, 0, none⟩) N c) ns.length (ns.flatMap nodeCells) :: kidsP fv fr :: group (ns.map nodeP) :: l)) :
    TreeS B D (w.setCell ⟨g, i * 4 + 3, none⟩ dv) t (.slice (some ⟨g, 0, none⟩) N c) fv (ns.set i (⟨p.1.kv, p.1.vv, dv⟩, { p.2 with kids := ds })) fr k l := by
  obtain rfl := row_len (Sat.own h 2 rfl)
  have h1 : TreeS B D w t (.slice (some ⟨g, 0, none⟩) ns.length c) fv ns fr k (kidsP dv ds :: l) := h.perm (List.perm_middle (l₁ := [blk t (treeCells (.slice (some ⟨g, 0, none⟩) ns.length c) fv k) tT, ownS tN 4 (.slice (some ⟨g, 0, none⟩) ns.length c) ns.length (ns.flatMap nodeCells), kidsP fv fr, group (ns.map nodeP)]) (a := kidsP dv ds) (l₂ := l)).symm
  have h2 := (h1.focus hi).front 7 rfl
  have h3 := h2.front 3 rfl
  simp only [List.eraseIdx_cons_succ, List.eraseIdx_cons_zero] at h3
  have h4 := h3.drop
  exact TreeS.set_kids hi h4

/-! ### what is cut -/
theorem cut_own {e : TypeId} {size g n c m : Nat} {α : Type} {f : α → List Value} (hf : ∀ x, (f x).length = size) {xs : List α} (hs : Sat B D w (ownS e size (.slice (some ⟨g, 0, none⟩) n c) n (xs.flatMap f) :: l)) (hn : n = xs.length) (hm : m ≤ n) (hc : n ≤ c) :
    Sat B D w (ownS e size (.slice (some ⟨g, 0, none⟩) m m) (xs.take m).length ((xs.take m).flatMap f) :: l) := by
  have h := hs.own_cut (m := m) (c := m) hm (Nat.le_refl _) (by omega)
  rw [flat_take hf] at h
  rw [List.length_take, Nat.min_eq_left (by omega)]
  exact h
theorem TreeS.cut_keys {N g c gk nk ck m : Nat} {i : Nat} {p : NP} (h : TreeS B D w t (.slice (some ⟨g, 0, none⟩) N c) fv ns fr k l) (hi : ns[i]? = some p) (hk : p.1.kv = .slice (some ⟨gk, 0, none⟩) nk ck) (hm : m ≤ p.2.keys.length) :
    TreeS B D (w.setCell ⟨g, i * 4 + 1, none⟩ (.slice (some ⟨gk, 0, none⟩) m m)) t (.slice (some ⟨g, 0, none⟩) N c) fv (ns.set i (⟨.slice (some ⟨gk, 0, none⟩) m m, p.1.vv, p.1.dv⟩, { p.2 with keys := p.2.keys.take m })) fr k l := by
  obtain rfl := row_len (Sat.own h 1 rfl)
  have h1 := h.focus hi
  rw [hk] at h1
  obtain ⟨_, _, hv, hc, _⟩ := (h1.own 0 rfl).rd.2.2
  cases hv
  exact TreeS.set_keys hi (cut_own Val.len h1 rfl hm hc)
theorem TreeS.cut_vals {N g c gk nk ck m : Nat} {i : Nat} {p : NP} (h : TreeS B D w t (.slice (some ⟨g, 0, none⟩) N c) fv ns fr k l) (hi : ns[i]? = some p) (hk : p.1.vv = .slice (some ⟨gk, 0, none⟩) nk ck) (hm : m ≤ p.2.vals.length) :
    TreeS B D (w.setCell ⟨g, i * 4 + 2, none⟩ (.slice (some ⟨gk, 0, none⟩) m m)) t (.slice (some ⟨g, 0, none⟩) N c) fv (ns.set i (⟨p.1.kv, .slice (some ⟨gk, 0, none⟩) m m, p.1.dv⟩, { p.2 with vals := p.2.vals.take m })) fr k l := by
  obtain rfl := row_len (Sat.own h 1 rfl)
  have h1 := (h.focus hi).swap
  rw [hk] at h1
  obtain ⟨_, _, hv, hc, _⟩ := (h1.own 0 rfl).rd.2.2
  cases hv
  exact TreeS.set_vals hi (cut_own vlen h1 rfl hm hc)
theorem TreeS.cut_kids {N g c gk nk ck m : Nat} {i : Nat} {p : NP} (h : TreeS B D w t (.slice (some ⟨g, 0, none⟩) N c) fv ns fr k l) (hi : ns[i]? = some p) (hk : p.1.dv = .slice (some ⟨gk, 0, none⟩) nk ck) (hm : m ≤ p.2.kids.length) :
    TreeS B D (w.setCell ⟨g, i * 4 + 3, none⟩ (.slice (some ⟨gk, 0, none⟩) m m)) t (.slice (some ⟨g, 0, none⟩) N c) fv (ns.set i (⟨p.1.kv, p.1.vv, .slice (some ⟨gk, 0, none⟩) m m⟩, { p.2 with kids := p.2.kids.take m })) fr k l := by
  obtain rfl := row_len (Sat.own h 1 rfl)
  have h1 := (h.focus hi).front 2 rfl
  simp only [List.eraseIdx_cons_succ, List.eraseIdx_cons_zero] at h1
  rw [hk] at h1
  obtain ⟨_, _, hv, hc, _⟩ := (h1.own 0 rfl).rd.2.2
  cases hv
  exact TreeS.set_kids hi (cut_own nlen h1 rfl hm hc)

/-! ### what is put between -/
def insAt {α : Type} (l : List α) (i : Nat) (x : α) : List α := l.take i ++ x :: l.drop i
theorem insAt_len {α : Type} (l : List α) (i : Nat) (x : α) : (insAt l i x).length = l.length + 1 := by simp [insAt]; omega
theorem flat_insAt {α : Type} {f : α → List Value} {size : Nat} (hf : ∀ x, (f x).length = size) (l : List α) (i : Nat) (x : α) : (l.flatMap f).take (i * size) ++ f x ++ (l.flatMap f).drop (i * size) = (insAt l i x).flatMap f := by
  rw [flat_take hf, flat_drop hf]
  simp [insAt]
theorem TreeS.alloc (h : TreeS B D w t nv fv ns fr k l) (cs : Array Value) (ty : TypeId) : TreeS B D (w.alloc (.cells cs ty)) t nv fv ns fr k (Proofs.Ytcbklkcpjldcjaa.blk w.heap.size cs ty :: l) :=
  (Sat.alloc h cs ty).perm (List.perm_middle (l₁ := [Proofs.Ytcbklkcpjldcjaa.blk t (treeCells nv fv k) tT, ownS tN 4 nv ns.length (ns.flatMap nodeCells), kidsP fv fr, group (ns.map nodeP)]) (a := Proofs.Ytcbklkcpjldcjaa.blk w.heap.size cs ty) (l₂ := l)).symm
theorem TreeS.drop {A : HP} (h : TreeS B D w t nv fv ns fr k (A :: l)) : TreeS B D w t nv fv ns fr k l :=
  (Sat.perm h (List.perm_middle (l₁ := [blk t (treeCells nv fv k) tT, ownS tN 4 nv ns.length (ns.flatMap nodeCells), kidsP fv fr, group (ns.map nodeP)]) (a := A) (l₂ := l))).drop
/-- ready for an insert into the keys; into what stands there; into the nodes below: the block of the new one behind -/
theorem TreeS.for_keys {A : HP} (h : TreeS B D w t nv fv ns fr k (A :: l)) {i : Nat} {p : NP} (hi : ns[i]? = some p) :
    Sat B D w (keysP p.1.kv p.2.keys :: A :: valsP p.1.vv p.2.vals :: kidsP p.1.dv p.2.kids :: blk t (treeCells nv fv k) tT :: ownS tN 4 nv ns.length (ns.flatMap nodeCells) :: kidsP fv fr :: group ((ns.map nodeP).eraseIdx i) :: l) := by
  have h1 := (h.focus hi).bring 6 rfl
  simp only [List.eraseIdx_cons_succ, List.eraseIdx_cons_zero] at h1
  exact h1
theorem TreeS.for_vals {A : HP} (h : TreeS B D w t nv fv ns fr k (A :: l)) {i : Nat} {p : NP} (hi : ns[i]? = some p) :
    Sat B D w (valsP p.1.vv p.2.vals :: A :: keysP p.1.kv p.2.keys :: kidsP p.1.dv p.2.kids :: blk t (treeCells nv fv k) tT :: ownS tN 4 nv ns.length (ns.flatMap nodeCells) :: kidsP fv fr :: group ((ns.map nodeP).eraseIdx i) :: l) := by
  have h1 := (h.focus hi).swap.bring 6 rfl
  simp only [List.eraseIdx_cons_succ, List.eraseIdx_cons_zero] at h1
  exact h1
theorem TreeS.for_kids {A : HP} (h : TreeS B D w t nv fv ns fr k (A :: l)) {i : Nat} {p : NP} (hi : ns[i]? = some p) :
    Sat B D w (kidsP p.1.dv p.2.kids :: A :: keysP p.1.kv p.2.keys :: valsP p.1.vv p.2.vals :: blk t (treeCells nv fv k) tT :: ownS tN 4 nv ns.length (ns.flatMap nodeCells) :: kidsP fv fr :: group ((ns.map nodeP).eraseIdx i) :: l) := by
  have h1 := (h.focus hi).front 2 rfl
  simp only [List.eraseIdx_cons_succ, List.eraseIdx_cons_zero] at h1
  have h2 := h1.bring 6 rfl
  simp only [List.eraseIdx_cons_succ, List.eraseIdx_cons_zero] at h2
  exact h2
/-- its elements from a place on -/
theorem rd_drop {size : Nat} {g n c m off : Nat} {α : Type} {f : α → List Value} (hf : ∀ x, (f x).length = size) {xs : List α} (h : Rd w size (.slice (some ⟨g, 0, none⟩) n c) xs.length (xs.flatMap f)) (hm : m ≤ n) (hoff : m < c → off = m * size) :
    Rd w size (.slice (some ⟨g, off, none⟩) (n - m) (c - m)) (xs.drop m).length ((xs.drop m).flatMap f) := by
  obtain ⟨h1, h2, _, _, hv, h3, h4, _, h5⟩ := h
  cases hv
  refine ⟨flat_len hf _, by rw [List.length_drop]; omega, _, _, by rw [List.length_drop], by rw [List.length_drop]; omega, by omega, (fun h => by cases h), ?_⟩
  by_cases hz : (xs.drop m).length = 0
  · exact .inl hz
  · rw [List.length_drop] at hz
    refine .inr ⟨g, off, rfl, fun j u hu => ?_⟩
    rcases h5 with h5 | ⟨_, _, hg, hc⟩
    · omega
    · cases hg
      rw [hoff (by omega)]
      have := hc (m * size + j) u (by rw [← List.getElem?_drop, flat_drop hf]; exact hu)
      rw [Nat.zero_add] at this
      exact this
end
end Go.Proofs.Ytcbklkcpjldcjaa

/- The tree: contracts of slot, give, size, below, Len, Depth, Used, Room. -/
namespace Go.Proofs.Ytcbklkcpjldcjaa
open Go.ChangeShapes Go.WideShapes Go.ChangeAt Go.RowKit
set_option maxRecDepth 100000
set_option linter.unusedSimpArgs false

/-- a tree as data -/
structure TM where
  nodes : List NodeM
  free : List Nat
  k : Num
def freshM (leaf : Bool) : NodeM := ⟨leaf, [], [], []⟩
def TreeA (B : World) (D : PH) (w : World) (t : Nat) (T : TM) (l : List HP) : Prop := ∃ nv fv ns, ns.map Prod.snd = T.nodes ∧ TreeS B D w t nv fv ns T.free T.k l
theorem TreeA.kept {B w w' : World} {D : PH} {t : Nat} {T : TM} {l : List HP} (h : TreeA B D w t T l) (hk : Kept (fun _ => False) w w') : TreeA B D w' t T l := by
  obtain ⟨nv, fv, ns, h1, h2⟩ := h
  exact ⟨nv, fv, ns, h1, h2.kept hk⟩
theorem TreeA.drew {B w : World} {D : PH} {t : Nat} {T : TM} {l : List HP} (h : TreeA B D w t T l) : TreeA B D w.drew t T l := h.kept ((Kept.refl _ _).drew)
theorem get_node {ns : List NP} {nodes : List NodeM} (h : ns.map Prod.snd = nodes) {i : Nat} {m : NodeM} (hi : nodes[i]? = some m) : ∃ v, ns[i]? = some (v, m) := by
  subst h
  rw [List.getElem?_map] at hi
  cases hn : ns[i]? with
  | none => rw [hn] at hi; cases hi
  | some p => rw [hn] at hi; cases hi; exact ⟨p.1, rfl⟩

def TM.slot (T : TM) (leaf : Bool) : Nat × TM := match T.free.getLast? with
  | some i => (i, { T with nodes := T.nodes.set i (freshM leaf), free := T.free.dropLast })
  | none => (T.nodes.length, { T with nodes := T.nodes ++ [freshM leaf] })

set_option maxHeartbeats 2000000 in
theorem slot_ok {B w : World} {D : PH} {t : Nat} {T : TM} {l : List HP} (leaf : Bool) (hfr : ∀ i, T.free.getLast? = some i → i < T.nodes.length) (hbig : T.nodes.length ≤ 1000000) (hfb : T.free.length ≤ 1000000) (h : TreeA B D w t T l) :
    Calls Try.prog 55 #[.pointer (some ⟨t, 0, none⟩), .bool leaf] w fun e w' => e = .returned (.int .i64 (T.slot leaf).1) ∧ TreeA B D w' t (T.slot leaf).2 l := by
  obtain ⟨nodes, free, k⟩ := T
  obtain ⟨nv, fv, ns, hns, hs⟩ := h
  dsimp only at *
  subst hns
  rw [List.length_map] at hbig
  obtain ⟨t0, t1, t2, t3, t4, tf⟩ := hs.tcells
  obtain ⟨o, c, rfl, hnm⟩ := hs.nv_any
  obtain ⟨fo, fc, rfl, hfm⟩ := hs.fv_any
  have hcc : free = [] ∨ ∃ fr i, free = fr ++ [i] := by
    rcases List.eq_nil_or_concat free with h | ⟨fr, i, h⟩
    · exact .inl h
    · exact .inr ⟨fr, i, by rw [h, List.concat_eq_append]⟩
  rcases hcc with rfl | ⟨fr, i, rfl⟩
  · have HS := Lib.hid hs
    have hslot : TM.slot ⟨ns.map Prod.snd, [], k⟩ leaf = (ns.length, ⟨ns.map Prod.snd ++ [freshM leaf], [], k⟩) := by simp [TM.slot]
    have HSL := Lib.hid hslot
    have hnew := Sat.alloc hs #[.bool leaf, .slice none 0 0, .slice none 0 0, .slice none 0 0] tN
    have hb := rd_block (size := 4) (n := 1) hnew.heap_blk rfl (by unfold maxLen; omega)
    have hn1 := (hnew.swap.perm ((List.Perm.swap _ _ _).cons _)).swap
    have HN := Lib.hid hn1
    have HB := Lib.hid hb
    obtain ⟨i0, hi, hz0, hz1, hz2⟩ := info_parts infoNode
    have HI := Lib.hid (And.intro hi (And.intro hz0 (And.intro hz1 hz2)))
    have HO := Lib.hid (show ∀ u ∈ [Value.bool leaf, .slice none 0 0, .slice none 0 0, .slice none 0 0], u.oneCell' = true by intro u hu; simp at hu; rcases hu with rfl | rfl <;> rfl)
    clear hs hslot hnew hn1 hb hi hz0 hz1 hz2
    dsimp only [List.length_nil] at *
    go_enter Try.func55, Try.ntmps55
    go_upto_region 8 with (at_builtin; refine wpList_append_Sat _ rfl _ _ 97 rfl tN i0 _ 4 80 Try.underlying97 HI.out.1 HI.out.2.1 HI.out.2.2.1 HI.out.2.2.2 rfl _ _ _ rfl HN.out _ 1 _ rfl HB.out HO.out (by unfold maxLen; omega) (by omega) ?_; intro v2 w2 h2 h2o; obtain ⟨g2, c2, rfl, _, _⟩ := (h2.own 0 rfl).form (by omega); clear t0 t1 t2 t3 t4 tf; obtain ⟨t0, t1, t2, t3, t4, tf⟩ := cells5 (h2.blk 1 rfl); have H2 := Lib.hid h2; clear h2)
    have hp := TreeS.push leaf (H2.out.perm ((List.Perm.swap _ _ _).cons _ |>.trans ((List.Perm.swap _ _ _)))).drop
    obtain ⟨W, hW, hs2⟩ := hp.hide
    rw [← hW]
    clear hW t0 t1 t2 t3 t4 tf hp H2
    obtain ⟨t0, t1, t2, t3, t4, tf⟩ := hs2.tcells
    have HS2 := Lib.hid hs2
    clear hs2
    go_wp2_with (fail)
    go_ret
    rw [HSL.out]
    exact ⟨by simp, _, _, _, by rw [List.map_append]; rfl, HS2.out⟩
  · have HS := Lib.hid hs
    have hslot : TM.slot ⟨ns.map Prod.snd, fr ++ [i], k⟩ leaf = (i, ⟨(ns.map Prod.snd).set i (freshM leaf), fr, k⟩) := by simp [TM.slot]
    have HSL := Lib.hid hslot
    have hi := hfr i (by simp)
    rw [List.length_map] at hi
    obtain ⟨p, hp⟩ : ∃ p, ns[i]? = some p := ⟨ns[i], List.getElem?_eq_getElem hi⟩
    obtain ⟨g, cg, hv, _, _⟩ := hs.nv_some (by omega)
    cases hv
    obtain ⟨n0, n1, n2, n3, nf⟩ := hs.node_cells hp
    obtain ⟨fg, fcc, hv, hfc1, hfc2⟩ := (Sat.own hs 2 rfl).form (by simp)
    cases hv
    have hlast := (Sat.own hs 2 rfl).cells fr.length (.int .i64 i) (by rw [List.flatMap_append, List.getElem?_append_right (by rw [flat_len nlen]; omega), flat_len nlen]; simp [Proofs.Ytcbklkcpjldcjaa.ncells])
    have HP := Lib.hid hp
    have hfree := hs.set_free (fr' := fr) (fun _ hh => by
      have := hh.own_cut (m := fr.length) (c := fc) (by simp) (by simp at hfc1; omega) (by omega)
      have e : ((fr ++ [i]).flatMap Proofs.Ytcbklkcpjldcjaa.ncells).take (fr.length * 1) = fr.flatMap Proofs.Ytcbklkcpjldcjaa.ncells := by
        rw [List.flatMap_append, List.take_append_of_le_length (by rw [flat_len nlen]; omega), List.take_of_length_le (by rw [flat_len nlen]; omega)]
      rw [e] at this
      exact this)
    have HF := Lib.hid hfree
    simp only [List.length_append, List.length_singleton] at *
    unfold maxLen at hfc2
    have hw1 : IntKind.i64.wrap ((fr.length : Int) + 1 - 1) = (fr.length : Int) := by rw [show (fr.length : Int) + 1 - 1 = fr.length by omega]; exact IntWalk.i64_in _ (by omega)
    have hib : (i : Int) < (ns.length : Int) := by omega
    clear hs hslot hp hfr hfree
    go_enter Try.func55, Try.ntmps55
    go_upto_region 5 with (fail)
    obtain ⟨W, hW, hs2⟩ := HF.out.hide
    rw [← hW]
    clear hW t0 t1 t2 t3 t4 tf n0 n1 n2 n3 nf HF hlast
    obtain ⟨t0, t1, t2, t3, t4, tf⟩ := hs2.tcells
    obtain ⟨n0, n1, n2, n3, nf⟩ := hs2.node_cells HP.out
    have HS2 := Lib.hid (hs2.reset HP.out leaf)
    clear hs2
    go_wp2_with (fail)
    go_ret
    rw [HSL.out]
    exact ⟨rfl, _, _, _, by rw [List.map_set]; rfl, HS2.out⟩
end Go.Proofs.Ytcbklkcpjldcjaa

/- The tree: contracts of give, size, below. -/
namespace Go.Proofs.Ytcbklkcpjldcjaa
open Go.ChangeShapes Go.WideShapes Go.ChangeAt Go.RowKit
set_option maxRecDepth 100000
set_option linter.unusedSimpArgs false

def TM.give (T : TM) (i : Nat) : TM := { T with nodes := T.nodes.set i (freshM false), free := T.free ++ [i] }
def NodeM.size (m : NodeM) : Nat := if m.leaf then m.keys.length else m.kids.length
def belowF (keys : List Val) (k : Val) : Nat := bsAt keys k + if bsIs keys k then 1 else 0

set_option maxHeartbeats 1000000 in
theorem size_ok {B w : World} {D : PH} {t : Nat} {T : TM} {l : List HP} {i : Nat} {m : NodeM} (hi : T.nodes[i]? = some m) (h : TreeA B D w t T l) :
    Calls Try.prog 57 #[.pointer (some ⟨t, 0, none⟩), .int .i64 i] w fun e w' => e = .returned (.int .i64 m.size) ∧ w = w' := by
  obtain ⟨nv, fv, ns, hns, hs⟩ := h
  obtain ⟨⟨kv, vv, dv⟩, hp⟩ := get_node hns hi
  have hlt := (List.getElem?_eq_some_iff.1 hp).1
  obtain ⟨g, c, rfl, _, hcm⟩ := hs.nv_some (by omega)
  obtain ⟨t0, t1, t2, t3, t4, tf⟩ := hs.tcells
  obtain ⟨n0, n1, n2, n3, nf⟩ := hs.node_cells hp
  obtain ⟨ko, kc, hkv⟩ := (hs.focus hp).own_shape
  obtain ⟨dO, dc, hdv⟩ := (hs.focus hp).drop.drop.own_shape
  dsimp only at hkv hdv n0 n1 n2 n3
  subst hkv hdv
  unfold maxLen at hcm
  have hib : (i : Int) < (ns.length : Int) := by omega
  cases hl : m.leaf
  · have HSZ := Lib.hid (show m.size = m.kids.length by simp [NodeM.size, hl])
    rw [hl] at n0
    clear hs hp hi hns hl
    go_enter Try.func57, Try.ntmps57
    go_wp2_with (fail)
    go_ret
    exact ⟨by rw [HSZ.out]; rfl, rfl⟩
  · have HSZ := Lib.hid (show m.size = m.keys.length by simp [NodeM.size, hl])
    rw [hl] at n0
    clear hs hp hi hns hl
    go_enter Try.func57, Try.ntmps57
    go_wp2_with (fail)
    go_ret
    exact ⟨by rw [HSZ.out]; rfl, rfl⟩

set_option maxHeartbeats 2000000 in
theorem below_ok {B w : World} {D : PH} {t : Nat} {T : TM} {l : List HP} {i : Nat} {m : NodeM} (k : Val) (hi : T.nodes[i]? = some m) (hkb : m.keys.length ≤ 1000000) (h : TreeA B D w t T l) :
    Calls Try.prog 69 #[.pointer (some ⟨t, 0, none⟩), .int .i64 i, k.v] w fun e w' => e = .returned (.int .i64 (belowF m.keys k)) ∧ Kept (fun _ => False) w w' := by
  obtain ⟨nv, fv, ns, hns, hs⟩ := h
  obtain ⟨⟨kv, vv, dv⟩, hp⟩ := get_node hns hi
  have hlt := (List.getElem?_eq_some_iff.1 hp).1
  obtain ⟨g, c, rfl, _, hcm⟩ := hs.nv_some (by omega)
  unfold maxLen at hcm
  have hk0 : Kept (fun _ => False) w (w.alloc (.cells #[.bool k.t, .int .i64 k.n, .string k.s] tV)) := (Kept.refl _ _).alloc _
  have hs1 := hs.kept hk0
  have hb : (w.alloc (.cells #[.bool k.t, .int .i64 k.n, .string k.s] tV)).heap[w.heap.size]? = some (.cells #[.bool k.t, .int .i64 k.n, .string k.s] tV (0, 0)) := heap_alloc_self w _
  have hib : (i : Int) < (ns.length : Int) := by omega
  have HB := Lib.hid hb
  have HK0 := Lib.hid hk0
  have HS1 := Lib.hid hs1
  have HP := Lib.hid hp
  have hbl := (bsF_le (keyAt m.keys k) 0 m.keys.length (Nat.zero_le _)).2
  have hbl2 : bsAt m.keys k ≤ 1000000 := Nat.le_trans hbl hkb
  clear hs hk0 hs1 hb hp hi hns hbl
  dsimp only [Val.v]
  go_enter Try.func69, Try.ntmps69
  go_upto_region 1 with (fail)
  obtain ⟨W, hW⟩ : ∃ W, W = w.alloc (.cells #[.bool k.t, .int .i64 k.n, .string k.s] tV) := ⟨_, rfl⟩
  rw [← hW] at HK0 HB HS1 ⊢
  generalize w.heap.size = bk at HB ⊢
  clear hW
  obtain ⟨x0, x1, x2, xf⟩ := cells3 HB.out
  obtain ⟨t0, t1, t2, t3, t4, tf⟩ := HS1.out.tcells
  obtain ⟨n0, n1, n2, n3, nf⟩ := HS1.out.node_cells HP.out
  have hrd := HS1.out.drew.keys_rd HP.out
  obtain ⟨ko, kc, hkv⟩ := (HS1.out.focus HP.out).own_shape
  dsimp only at hkv n0 n1 n2 n3 hrd
  subst hkv
  have HRD := Lib.hid hrd
  clear hrd
  refine wp_region_canon [(0, false, 9), (1, false, 9), (2, false, 9), (3, false, 9), (4, false, 9), (5, false, 9), (6, false, 9), (7, false, 9), (8, false, 9), (9, true, 0), (10, false, 999), (11, false, 999), (12, false, 999), (13, false, 999), (14, false, 999)] (by kernel_rfl) (by kernel_rfl) ?_
  iterate 9 (refine wpCan_read rfl rfl (fun K hK => ?_); go_simp; refine hK _ ?_; clear hK K)
  refine wpCan_eff rfl ?_
  refine wpList_do rfl (fun K hK => ?_)
  go_simp
  refine (search_ok k HRD.out hkb).mono ?_
  rintro e1 w1 ⟨rfl, hk1⟩
  have HK1 := Lib.hid (HK0.out.trans (((Kept.refl (fun _ => False) W).drew).trans hk1 (fun _ h => h.elim)) (fun _ h => h.elim))
  clear hk1 x0 x1 x2 xf t0 t1 t2 t3 t4 tf n0 n1 n2 n3 nf
  refine hK _ _ ?_
  clear hK K
  refine wpList_nil ?_
  refine And.intro ?_ ?_
  · go_simp
  iterate 5 (refine wpCan_read rfl rfl (fun K hK => ?_); go_simp; refine hK _ ?_; clear hK K)
  refine wpCan_nil ?_
  cases hbs : bsIs m.keys k
  · have HBF := Lib.hid (show belowF m.keys k = bsAt m.keys k by simp [belowF, hbs])
    clear hbs
    go_wp2_with (fail)
    go_ret
    exact ⟨by rw [HBF.out]; rfl, HK1.out⟩
  · have HBF := Lib.hid (show belowF m.keys k = bsAt m.keys k + 1 by simp [belowF, hbs])
    have hw : IntKind.i64.wrap ((bsAt m.keys k : Int) + 1) = (bsAt m.keys k : Int) + 1 := IntWalk.i64_in _ (by omega)
    clear hbs
    go_wp2_with (fail)
    go_ret
    exact ⟨by rw [HBF.out]; rfl, HK1.out⟩
end Go.Proofs.Ytcbklkcpjldcjaa
