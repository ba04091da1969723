/- Joined texts: The tree: contract of mend (printed by genmend2.py). The tree: contract of remove. The tree as data: two nodes side by side. The tree as data: something moves between two nodes; two become one. The tree as data: what fromLeft, fromRight, join do to a node with too little. The tree as data: remove. The tree: Delete, by what the tree stands for. The tree: Get, by what the tree stands for. The tree as data: how deep, how many nodes. The tree as data: what is put or deleted at one key changes nothing at another one. The tree as data: in whatever order keys are put. -/
import Derived.Test.YtcbklkcpjldcjaaJ20
import Derived.Test.YtcbklkcpjldcjaaJ21
import Derived.Test.YtcbklkcpjldcjaaJ22
import Derived.Test.YtcbklkcpjldcjaaJ23
import Derived.Test.YtcbklkcpjldcjaaJ24
import Derived.Test.YtcbklkcpjldcjaaJ14
import Derived.Test.YtcbklkcpjldcjaaJ15
import Derived.Test.YtcbklkcpjldcjaaJ17
/- The tree: contract of mend (printed by genmend2.py). -/
namespace Go.Proofs.Ytcbklkcpjldcjaa
open Go.ChangeShapes Go.WideShapes Go.ChangeAt Go.RowKit
set_option maxRecDepth 100000
set_option linter.unusedSimpArgs false

/-- what an operation at a node does to a tree -/
def OpAt (B : World) (D : PH) (t : Nat) (T T' : TM) (f : FuncId) (i : Nat) (c : Int) : Prop := ∀ (w : World) (l : List HP), TreeA B D w t T l → Calls Try.prog f #[.pointer (some ⟨t, 0, none⟩), .int .i64 i, .int .i64 c] w fun e w' => e = .returned (.tuple #[]) ∧ TreeA B D w' t T' l


set_option maxHeartbeats 2000000 in
theorem mend_left {B w : World} {D : PH} {t : Nat} {T T' : TM} {l : List HP} {i C a : Nat} {mi ma : NodeM} (hi : T.nodes[i]? = some mi) (hmb0 : mi.kids.length ≤ 1000) (ha : mi.kids[C]? = some a) (hma : T.nodes[a]? = some ma) (hza : 2 < ma.size)
    (hop : OpAt B D t T T' 80 i ((C + 1 : Nat) : Int)) (h : TreeA B D w t T l) :
    Calls Try.prog 70 #[.pointer (some ⟨t, 0, none⟩), .int .i64 i, .int .i64 ((C + 1 : Nat) : Int)] w fun e w' => e = .returned (.tuple #[]) ∧ TreeA B D w' t T' l := by
  have hA := h
  obtain ⟨nv, fv, ns, hns, hs⟩ := h
  obtain ⟨⟨ikv, ivv, idv⟩, hpi⟩ := get_node hns hi
  have hlt := (List.getElem?_eq_some_iff.1 hpi).1
  obtain ⟨g, cn, rfl, _, hcm⟩ := hs.nv_some (by omega)
  unfold maxLen at hcm
  have hib : (i : Int) < (ns.length : Int) := by omega
  have hkl : 0 < mi.kids.length := by have := (List.getElem?_eq_some_iff.1 ha).1; omega
  obtain ⟨idg, idc, hidv, _, _⟩ := some_shape (Sat.own (hs.focus hpi) 2 rfl) hkl
  dsimp only at hidv
  subst hidv
  obtain ⟨t0, t1, t2, t3, t4, tf⟩ := hs.tcells
  obtain ⟨i0, i1, i2, i3, nf⟩ := hs.node_cells hpi
  dsimp only at i0 i1 i2 i3
  have hal := (List.getElem?_eq_some_iff.1 ha).1
  have hac := ids_cell (hs.kids_rd hpi) ha
  have HSA := Lib.hid (size_ok hma hA)
  have hCi : (C : Int) < (mi.kids.length : Int) := by omega
  have hza' : (ma.size : Int) > 2 := by omega
  try dsimp only at hac
  have hw1 : IntKind.i64.wrap ((C : Int) + 1 - 1) = (C : Int) := by rw [i64w _ (by omega) (by omega)]; omega
  have hw0 : IntKind.i64.wrap (C : Int) = (C : Int) := i64w _ (by omega) (by omega)
  have hw2 : IntKind.i64.wrap ((C : Int) + 1 + 1) = (C : Int) + 1 + 1 := i64w _ (by omega) (by omega)
  have hc0 : (C : Int) + 1 > 0 := by omega
  have hc00 : 0 < (C : Int) + 1 := by omega
  have hc02 : 0 ≤ (C : Int) + 1 + 1 := by omega
  have HOP := Lib.hid (hop w l hA)
  clear hA hs hns hpi hi hop ha hma hza
  push_cast
  go_enter Try.func70, Try.ntmps70
  go_wp2_with (first | (go_at_call 57; refine HSA.out.mono ?_; rintro e3 w3 ⟨rfl, rfl⟩; clear HSA) | (go_at_call 80; refine HOP.out.mono ?_; rintro e5 w5 ⟨rfl, ha5⟩; have HA5 := Lib.hid ha5; clear ha5))
  go_end0
  exact ⟨rfl, HA5.out⟩


set_option maxHeartbeats 2000000 in
theorem mend_right0 {B w : World} {D : PH} {t : Nat} {T T' : TM} {l : List HP} {i b : Nat} {mi mb : NodeM} (hi : T.nodes[i]? = some mi) (hmb0 : mi.kids.length ≤ 1000) (hb : mi.kids[1]? = some b) (hmb : T.nodes[b]? = some mb) (hzb : 2 < mb.size)
    (hop : OpAt B D t T T' 81 i 0) (h : TreeA B D w t T l) :
    Calls Try.prog 70 #[.pointer (some ⟨t, 0, none⟩), .int .i64 i, .int .i64 0] w fun e w' => e = .returned (.tuple #[]) ∧ TreeA B D w' t T' l := by
  have hA := h
  obtain ⟨nv, fv, ns, hns, hs⟩ := h
  obtain ⟨⟨ikv, ivv, idv⟩, hpi⟩ := get_node hns hi
  have hlt := (List.getElem?_eq_some_iff.1 hpi).1
  obtain ⟨g, cn, rfl, _, hcm⟩ := hs.nv_some (by omega)
  unfold maxLen at hcm
  have hib : (i : Int) < (ns.length : Int) := by omega
  have hkl : 0 < mi.kids.length := by have := (List.getElem?_eq_some_iff.1 hb).1; omega
  obtain ⟨idg, idc, hidv, _, _⟩ := some_shape (Sat.own (hs.focus hpi) 2 rfl) hkl
  dsimp only at hidv
  subst hidv
  obtain ⟨t0, t1, t2, t3, t4, tf⟩ := hs.tcells
  obtain ⟨i0, i1, i2, i3, nf⟩ := hs.node_cells hpi
  dsimp only at i0 i1 i2 i3
  have hbl := (List.getElem?_eq_some_iff.1 hb).1
  have hbc := ids_cell (hs.kids_rd hpi) hb
  have HSB := Lib.hid (size_ok hmb hA)
  have hCb : (1 : Int) < (mi.kids.length : Int) := by omega
  have hzb' : (mb.size : Int) > 2 := by omega
  try dsimp only at hbc
  have HOP := Lib.hid (hop w l hA)
  clear hA hs hns hpi hi hop hb hmb hzb
  skip
  go_enter Try.func70, Try.ntmps70
  go_wp2_with (first | (go_at_call 57; refine HSB.out.mono ?_; rintro e4 w4 ⟨rfl, rfl⟩; clear HSB) | (go_at_call 81; refine HOP.out.mono ?_; rintro e5 w5 ⟨rfl, ha5⟩; have HA5 := Lib.hid ha5; clear ha5))
  go_end0
  exact ⟨rfl, HA5.out⟩


set_option maxHeartbeats 2000000 in
theorem mend_right1 {B w : World} {D : PH} {t : Nat} {T T' : TM} {l : List HP} {i C a b : Nat} {mi ma mb : NodeM} (hi : T.nodes[i]? = some mi) (hmb0 : mi.kids.length ≤ 1000) (ha : mi.kids[C]? = some a) (hma : T.nodes[a]? = some ma) (hza : ma.size ≤ 2) (hb : mi.kids[C + 2]? = some b) (hmb : T.nodes[b]? = some mb) (hzb : 2 < mb.size)
    (hop : OpAt B D t T T' 81 i ((C + 1 : Nat) : Int)) (h : TreeA B D w t T l) :
    Calls Try.prog 70 #[.pointer (some ⟨t, 0, none⟩), .int .i64 i, .int .i64 ((C + 1 : Nat) : Int)] w fun e w' => e = .returned (.tuple #[]) ∧ TreeA B D w' t T' l := by
  have hA := h
  obtain ⟨nv, fv, ns, hns, hs⟩ := h
  obtain ⟨⟨ikv, ivv, idv⟩, hpi⟩ := get_node hns hi
  have hlt := (List.getElem?_eq_some_iff.1 hpi).1
  obtain ⟨g, cn, rfl, _, hcm⟩ := hs.nv_some (by omega)
  unfold maxLen at hcm
  have hib : (i : Int) < (ns.length : Int) := by omega
  have hkl : 0 < mi.kids.length := by have := (List.getElem?_eq_some_iff.1 ha).1; omega
  obtain ⟨idg, idc, hidv, _, _⟩ := some_shape (Sat.own (hs.focus hpi) 2 rfl) hkl
  dsimp only at hidv
  subst hidv
  obtain ⟨t0, t1, t2, t3, t4, tf⟩ := hs.tcells
  obtain ⟨i0, i1, i2, i3, nf⟩ := hs.node_cells hpi
  dsimp only at i0 i1 i2 i3
  have hal := (List.getElem?_eq_some_iff.1 ha).1
  have hac := ids_cell (hs.kids_rd hpi) ha
  have HSA := Lib.hid (size_ok hma hA)
  have hCi : (C : Int) < (mi.kids.length : Int) := by omega
  have hza' : ¬ ((ma.size : Int) > 2) := by omega
  try dsimp only at hac
  have hw1 : IntKind.i64.wrap ((C : Int) + 1 - 1) = (C : Int) := by rw [i64w _ (by omega) (by omega)]; omega
  have hw0 : IntKind.i64.wrap (C : Int) = (C : Int) := i64w _ (by omega) (by omega)
  have hw2 : IntKind.i64.wrap ((C : Int) + 1 + 1) = (C : Int) + 1 + 1 := i64w _ (by omega) (by omega)
  have hc0 : (C : Int) + 1 > 0 := by omega
  have hc00 : 0 < (C : Int) + 1 := by omega
  have hc02 : 0 ≤ (C : Int) + 1 + 1 := by omega
  have hbl := (List.getElem?_eq_some_iff.1 hb).1
  have hbc := ids_cell (hs.kids_rd hpi) hb
  have HSB := Lib.hid (size_ok hmb hA)
  have hCb : (C : Int) + 1 + 1 < (mi.kids.length : Int) := by omega
  have hzb' : (mb.size : Int) > 2 := by omega
  try dsimp only at hbc
  have HOP := Lib.hid (hop w l hA)
  clear hA hs hns hpi hi hop ha hma hza hb hmb hzb
  push_cast
  go_enter Try.func70, Try.ntmps70
  go_wp2_with (first | (go_at_call 57; refine HSA.out.mono ?_; rintro e3 w3 ⟨rfl, rfl⟩; clear HSA) | (go_at_call 57; refine HSB.out.mono ?_; rintro e4 w4 ⟨rfl, rfl⟩; clear HSB) | (go_at_call 81; refine HOP.out.mono ?_; rintro e5 w5 ⟨rfl, ha5⟩; have HA5 := Lib.hid ha5; clear ha5))
  go_end0
  exact ⟨rfl, HA5.out⟩


set_option maxHeartbeats 2000000 in
theorem mend_joinl_end {B w : World} {D : PH} {t : Nat} {T T' : TM} {l : List HP} {i C a : Nat} {mi ma : NodeM} (hi : T.nodes[i]? = some mi) (hmb0 : mi.kids.length ≤ 1000) (ha : mi.kids[C]? = some a) (hma : T.nodes[a]? = some ma) (hza : ma.size ≤ 2) (hlen : mi.kids.length = C + 2)
    (hop : OpAt B D t T T' 82 i (C : Int)) (h : TreeA B D w t T l) :
    Calls Try.prog 70 #[.pointer (some ⟨t, 0, none⟩), .int .i64 i, .int .i64 ((C + 1 : Nat) : Int)] w fun e w' => e = .returned (.tuple #[]) ∧ TreeA B D w' t T' l := by
  have hA := h
  obtain ⟨nv, fv, ns, hns, hs⟩ := h
  obtain ⟨⟨ikv, ivv, idv⟩, hpi⟩ := get_node hns hi
  have hlt := (List.getElem?_eq_some_iff.1 hpi).1
  obtain ⟨g, cn, rfl, _, hcm⟩ := hs.nv_some (by omega)
  unfold maxLen at hcm
  have hib : (i : Int) < (ns.length : Int) := by omega
  have hkl : 0 < mi.kids.length := by have := (List.getElem?_eq_some_iff.1 ha).1; omega
  obtain ⟨idg, idc, hidv, _, _⟩ := some_shape (Sat.own (hs.focus hpi) 2 rfl) hkl
  dsimp only at hidv
  subst hidv
  obtain ⟨t0, t1, t2, t3, t4, tf⟩ := hs.tcells
  obtain ⟨i0, i1, i2, i3, nf⟩ := hs.node_cells hpi
  dsimp only at i0 i1 i2 i3
  have hal := (List.getElem?_eq_some_iff.1 ha).1
  have hac := ids_cell (hs.kids_rd hpi) ha
  have HSA := Lib.hid (size_ok hma hA)
  have hCi : (C : Int) < (mi.kids.length : Int) := by omega
  have hza' : ¬ ((ma.size : Int) > 2) := by omega
  try dsimp only at hac
  have hw1 : IntKind.i64.wrap ((C : Int) + 1 - 1) = (C : Int) := by rw [i64w _ (by omega) (by omega)]; omega
  have hw0 : IntKind.i64.wrap (C : Int) = (C : Int) := i64w _ (by omega) (by omega)
  have hw2 : IntKind.i64.wrap ((C : Int) + 1 + 1) = (C : Int) + 1 + 1 := i64w _ (by omega) (by omega)
  have hc0 : (C : Int) + 1 > 0 := by omega
  have hc00 : 0 < (C : Int) + 1 := by omega
  have hc02 : 0 ≤ (C : Int) + 1 + 1 := by omega
  have hCb : ¬ ((C : Int) + 1 + 1 < (mi.kids.length : Int)) := by omega
  have HOP := Lib.hid (hop w l hA)
  clear hA hs hns hpi hi hop ha hma hza
  push_cast
  go_enter Try.func70, Try.ntmps70
  go_wp2_with (first | (go_at_call 57; refine HSA.out.mono ?_; rintro e3 w3 ⟨rfl, rfl⟩; clear HSA) | (go_at_call 82; refine HOP.out.mono ?_; rintro e5 w5 ⟨rfl, ha5⟩; have HA5 := Lib.hid ha5; clear ha5))
  go_end0
  exact ⟨rfl, HA5.out⟩


set_option maxHeartbeats 2000000 in
theorem mend_joinl {B w : World} {D : PH} {t : Nat} {T T' : TM} {l : List HP} {i C a b : Nat} {mi ma mb : NodeM} (hi : T.nodes[i]? = some mi) (hmb0 : mi.kids.length ≤ 1000) (ha : mi.kids[C]? = some a) (hma : T.nodes[a]? = some ma) (hza : ma.size ≤ 2) (hb : mi.kids[C + 2]? = some b) (hmb : T.nodes[b]? = some mb) (hzb : mb.size ≤ 2)
    (hop : OpAt B D t T T' 82 i (C : Int)) (h : TreeA B D w t T l) :
    Calls Try.prog 70 #[.pointer (some ⟨t, 0, none⟩), .int .i64 i, .int .i64 ((C + 1 : Nat) : Int)] w fun e w' => e = .returned (.tuple #[]) ∧ TreeA B D w' t T' l := by
  have hA := h
  obtain ⟨nv, fv, ns, hns, hs⟩ := h
  obtain ⟨⟨ikv, ivv, idv⟩, hpi⟩ := get_node hns hi
  have hlt := (List.getElem?_eq_some_iff.1 hpi).1
  obtain ⟨g, cn, rfl, _, hcm⟩ := hs.nv_some (by omega)
  unfold maxLen at hcm
  have hib : (i : Int) < (ns.length : Int) := by omega
  have hkl : 0 < mi.kids.length := by have := (List.getElem?_eq_some_iff.1 ha).1; omega
  obtain ⟨idg, idc, hidv, _, _⟩ := some_shape (Sat.own (hs.focus hpi) 2 rfl) hkl
  dsimp only at hidv
  subst hidv
  obtain ⟨t0, t1, t2, t3, t4, tf⟩ := hs.tcells
  obtain ⟨i0, i1, i2, i3, nf⟩ := hs.node_cells hpi
  dsimp only at i0 i1 i2 i3
  have hal := (List.getElem?_eq_some_iff.1 ha).1
  have hac := ids_cell (hs.kids_rd hpi) ha
  have HSA := Lib.hid (size_ok hma hA)
  have hCi : (C : Int) < (mi.kids.length : Int) := by omega
  have hza' : ¬ ((ma.size : Int) > 2) := by omega
  try dsimp only at hac
  have hw1 : IntKind.i64.wrap ((C : Int) + 1 - 1) = (C : Int) := by rw [i64w _ (by omega) (by omega)]; omega
  have hw0 : IntKind.i64.wrap (C : Int) = (C : Int) := i64w _ (by omega) (by omega)
  have hw2 : IntKind.i64.wrap ((C : Int) + 1 + 1) = (C : Int) + 1 + 1 := i64w _ (by omega) (by omega)
  have hc0 : (C : Int) + 1 > 0 := by omega
  have hc00 : 0 < (C : Int) + 1 := by omega
  have hc02 : 0 ≤ (C : Int) + 1 + 1 := by omega
  have hbl := (List.getElem?_eq_some_iff.1 hb).1
  have hbc := ids_cell (hs.kids_rd hpi) hb
  have HSB := Lib.hid (size_ok hmb hA)
  have hCb : (C : Int) + 1 + 1 < (mi.kids.length : Int) := by omega
  have hzb' : ¬ ((mb.size : Int) > 2) := by omega
  try dsimp only at hbc
  have HOP := Lib.hid (hop w l hA)
  clear hA hs hns hpi hi hop ha hma hza hb hmb hzb
  push_cast
  go_enter Try.func70, Try.ntmps70
  go_wp2_with (first | (go_at_call 57; refine HSA.out.mono ?_; rintro e3 w3 ⟨rfl, rfl⟩; clear HSA) | (go_at_call 57; refine HSB.out.mono ?_; rintro e4 w4 ⟨rfl, rfl⟩; clear HSB) | (go_at_call 82; refine HOP.out.mono ?_; rintro e5 w5 ⟨rfl, ha5⟩; have HA5 := Lib.hid ha5; clear ha5))
  go_end0
  exact ⟨rfl, HA5.out⟩


set_option maxHeartbeats 2000000 in
theorem mend_joinr {B w : World} {D : PH} {t : Nat} {T T' : TM} {l : List HP} {i b : Nat} {mi mb : NodeM} (hi : T.nodes[i]? = some mi) (hmb0 : mi.kids.length ≤ 1000) (hb : mi.kids[1]? = some b) (hmb : T.nodes[b]? = some mb) (hzb : mb.size ≤ 2)
    (hop : OpAt B D t T T' 82 i 0) (h : TreeA B D w t T l) :
    Calls Try.prog 70 #[.pointer (some ⟨t, 0, none⟩), .int .i64 i, .int .i64 0] w fun e w' => e = .returned (.tuple #[]) ∧ TreeA B D w' t T' l := by
  have hA := h
  obtain ⟨nv, fv, ns, hns, hs⟩ := h
  obtain ⟨⟨ikv, ivv, idv⟩, hpi⟩ := get_node hns hi
  have hlt := (List.getElem?_eq_some_iff.1 hpi).1
  obtain ⟨g, cn, rfl, _, hcm⟩ := hs.nv_some (by omega)
  unfold maxLen at hcm
  have hib : (i : Int) < (ns.length : Int) := by omega
  have hkl : 0 < mi.kids.length := by have := (List.getElem?_eq_some_iff.1 hb).1; omega
  obtain ⟨idg, idc, hidv, _, _⟩ := some_shape (Sat.own (hs.focus hpi) 2 rfl) hkl
  dsimp only at hidv
  subst hidv
  obtain ⟨t0, t1, t2, t3, t4, tf⟩ := hs.tcells
  obtain ⟨i0, i1, i2, i3, nf⟩ := hs.node_cells hpi
  dsimp only at i0 i1 i2 i3
  have hbl := (List.getElem?_eq_some_iff.1 hb).1
  have hbc := ids_cell (hs.kids_rd hpi) hb
  have HSB := Lib.hid (size_ok hmb hA)
  have hCb : (1 : Int) < (mi.kids.length : Int) := by omega
  have hzb' : ¬ ((mb.size : Int) > 2) := by omega
  try dsimp only at hbc
  have HOP := Lib.hid (hop w l hA)
  clear hA hs hns hpi hi hop hb hmb hzb
  skip
  go_enter Try.func70, Try.ntmps70
  go_wp2_with (first | (go_at_call 57; refine HSB.out.mono ?_; rintro e4 w4 ⟨rfl, rfl⟩; clear HSB) | (go_at_call 82; refine HOP.out.mono ?_; rintro e5 w5 ⟨rfl, ha5⟩; have HA5 := Lib.hid ha5; clear ha5))
  go_end0
  exact ⟨rfl, HA5.out⟩

end Go.Proofs.Ytcbklkcpjldcjaa

/- The tree: contract of remove. -/
namespace Go.Proofs.Ytcbklkcpjldcjaa
open Go.ChangeShapes Go.WideShapes Go.ChangeAt Go.RowKit
set_option maxRecDepth 100000
set_option linter.unusedSimpArgs false

def MendAt (T T' : TM) (i c : Nat) : Prop := ∀ {B : World} {D : PH} {t : Nat} (w : World) (l : List HP), TreeA B D w t T l → Calls Try.prog 70 #[.pointer (some ⟨t, 0, none⟩), .int .i64 i, .int .i64 c] w fun e w' => e = .returned (.tuple #[]) ∧ TreeA B D w' t T' l
/-- what remove does below a node -/
inductive TM.RemR (k : Val) : TM → Nat → TM → Bool → Prop
  | absent {T : TM} {i : Nat} {m : NodeM} (hi : T.nodes[i]? = some m) (hl : m.leaf = true) (hkb : m.keys.length ≤ 1000) (his : bsIs m.keys k = false) : TM.RemR k T i T false
  | found {T : TM} {i : Nat} {m : NodeM} (hi : T.nodes[i]? = some m) (hl : m.leaf = true) (hkb : m.keys.length ≤ 1000) (hv : m.vals.length = m.keys.length) (his : bsIs m.keys k = true) : TM.RemR k T i { T with nodes := T.nodes.set i { m with keys := delAt m.keys (bsAt m.keys k), vals := delAt m.vals (bsAt m.keys k) } } true
  | inner {T T1 : TM} {i kid : Nat} {m mk : NodeM} {b : Bool} (hi : T.nodes[i]? = some m) (hl : m.leaf = false) (hkb : m.keys.length ≤ 1000) (hc : m.kids[belowF m.keys k]? = some kid) (hp : TM.RemR k T kid T1 b) (hk : T1.nodes[kid]? = some mk) (hz : 2 ≤ mk.size) : TM.RemR k T i T1 b
  | mended {T T1 T2 : TM} {i kid : Nat} {m mk : NodeM} {b : Bool} (hi : T.nodes[i]? = some m) (hl : m.leaf = false) (hkb : m.keys.length ≤ 1000) (hc : m.kids[belowF m.keys k]? = some kid) (hp : TM.RemR k T kid T1 b) (hk : T1.nodes[kid]? = some mk) (hz : mk.size < 2) (hm : MendAt T1 T2 i (belowF m.keys k)) : TM.RemR k T i T2 b

set_option maxHeartbeats 2000000 in
theorem remove_inner {B w : World} {D : PH} {t : Nat} {T T1 T2 : TM} {l : List HP} {i kid : Nat} {m mk : NodeM} {k : Val} {b : Bool} (hi : T.nodes[i]? = some m) (hl : m.leaf = false) (hkb : m.keys.length ≤ 1000) (hc : m.kids[belowF m.keys k]? = some kid)
    (ih : ∀ (w : World) (l : List HP), TreeA B D w t T l → Calls Try.prog 53 #[.pointer (some ⟨t, 0, none⟩), .int .i64 kid, k.v] w fun e w' => e = .returned (.bool b) ∧ TreeA B D w' t T1 l)
    (hk : T1.nodes[kid]? = some mk) (hz : (2 ≤ mk.size ∧ T2 = T1) ∨ (mk.size < 2 ∧ MendAt T1 T2 i (belowF m.keys k))) (h : TreeA B D w t T l) :
    Calls Try.prog 53 #[.pointer (some ⟨t, 0, none⟩), .int .i64 i, k.v] w fun e w' => e = .returned (.bool b) ∧ TreeA B D w' t T2 l := by
  obtain ⟨nv, fv, ns, hns, hs⟩ := h
  obtain ⟨⟨kv, vv, dv⟩, hp⟩ := get_node hns hi
  have hlt := (List.getElem?_eq_some_iff.1 hp).1
  obtain ⟨g, c, rfl, _, hcm⟩ := hs.nv_some (by omega)
  unfold maxLen at hcm
  have hs1 := hs.alloc #[.bool k.t, .int .i64 k.n, .string k.s] tV
  have hib : (i : Int) < (ns.length : Int) := by omega
  have HS1 := Lib.hid hs1
  have HP := Lib.hid hp
  have HNS := Lib.hid hns
  have HL := Lib.hid hl
  have hcl := (List.getElem?_eq_some_iff.1 hc).1
  have HC := Lib.hid hc
  have HI := Lib.hid hi
  have IH := Lib.hid ih
  have HK := Lib.hid hk
  have hkb2 : m.keys.length ≤ 1000000 := by omega
  clear hs hs1 hp hi hns hl hc ih hk
  dsimp only [Val.v]
  go_enter Try.func53, Try.ntmps53
  go_upto_region 1 with (fail)
  obtain ⟨W, hW, hs2⟩ := HS1.out.hide
  rw [← hW]
  clear HS1 hW
  generalize w.heap.size = bk at hs2 ⊢
  obtain ⟨t0, t1, t2, t3, t4, tf⟩ := hs2.tcells
  obtain ⟨n0, n1, n2, n3, nf⟩ := hs2.node_cells HP.out
  obtain ⟨x0, x1, x2, xf⟩ := cells3 (Sat.blk hs2 4 rfl)
  dsimp only at n0 n1 n2 n3
  rw [HL.out] at n0
  obtain ⟨C, hC⟩ : ∃ C, belowF m.keys k = C := ⟨_, rfl⟩
  have HB := Lib.hid (below_ok (i := i) k HI.out hkb2 ⟨_, _, _, HNS.out, hs2⟩)
  rw [hC] at HB HC hcl hz
  have HS2 := Lib.hid hs2
  have HZ := Lib.hid hz
  clear hs2 hC hz
  go_upto_region 9 with ((go_at_call 69; refine HB.out.mono ?_; rintro e1 w1 ⟨rfl, hk1⟩; have hs3 := HS2.out.kept hk1; have HS3 := Lib.hid hs3; clear hk1 HS2 x0 x1 x2 xf t0 t1 t2 t3 t4 tf n0 n1 n2 n3 nf HB; clear hs3))
  have hs3 := HS3.out
  obtain ⟨t0, t1, t2, t3, t4, tf⟩ := hs3.tcells
  obtain ⟨n0, n1, n2, n3, nf⟩ := hs3.node_cells HP.out
  obtain ⟨x0, x1, x2, xf⟩ := cells3 (Sat.blk hs3 4 rfl)
  obtain ⟨dg, dc, hdv, hdc1, hdc2⟩ := some_shape (Sat.own (hs3.focus HP.out) 2 rfl) (by show 0 < m.kids.length; omega)
  dsimp only at n0 n1 n2 n3 hdv
  subst hdv
  have hcell := ids_cell (hs3.kids_rd HP.out) HC.out
  have hcb : (C : Int) < (m.kids.length : Int) := by omega
  have HP3 := Lib.hid (IH.out w1 _ ⟨_, _, _, HNS.out, hs3⟩)
  clear hs3 HS3
  go_upto_region 11 with ((go_at_call 53; refine HP3.out.mono ?_; rintro e2 w2 ⟨rfl, hs4⟩; have HA4 := Lib.hid hs4; clear hs4 HP3 x0 x1 x2 xf t0 t1 t2 t3 t4 tf n0 n1 n2 n3 nf hcell))
  have HSZ := Lib.hid (size_ok HK.out HA4.out)
  rcases HZ.out with ⟨hz, rfl⟩ | ⟨hz, hsp⟩
  · have hz' : ¬ ((mk.size : Int) < 2) := by omega
    go_wp2_with ((go_at_call 57; refine HSZ.out.mono ?_; rintro e3 w3 ⟨rfl, rfl⟩))
    go_ret
    obtain ⟨nv4, fv4, ns4, hns4, hs4⟩ := HA4.out
    exact ⟨rfl, _, _, _, hns4, hs4.drop⟩
  · have hz' : ((mk.size : Int) < 2) := by omega
    have HSP := Lib.hid (hsp _ _ HA4.out)
    clear hsp
    go_wp2_with (first | (go_at_call 57; refine HSZ.out.mono ?_; rintro e3 w3 ⟨rfl, rfl⟩) | (go_at_call 70; refine HSP.out.mono ?_; rintro e5 w5 ⟨rfl, hs5⟩; have HA5 := Lib.hid hs5; clear hs5))
    go_ret
    obtain ⟨nv5, fv5, ns5, hns5, hs5⟩ := HA5.out
    exact ⟨rfl, _, _, _, hns5, hs5.drop⟩

theorem remove_ok {B : World} {D : PH} {t : Nat} {T T' : TM} {i : Nat} {k : Val} {b : Bool} (hp : TM.RemR k T i T' b) : ∀ (w : World) (l : List HP), TreeA B D w t T l →
    Calls Try.prog 53 #[.pointer (some ⟨t, 0, none⟩), .int .i64 i, k.v] w fun e w' => e = .returned (.bool b) ∧ TreeA B D w' t T' l := by
  induction hp with
  | absent hi hl hkb his => intro w l h; exact remove_absent hi hl hkb his h
  | found hi hl hkb hv his => intro w l h; exact remove_found hi hl hkb hv his h
  | inner hi hl hkb hc hp hk hz ih => intro w l h; exact remove_inner hi hl hkb hc ih hk (.inl ⟨hz, rfl⟩) h
  | mended hi hl hkb hc hp hk hz hm ih => intro w l h; exact remove_inner hi hl hkb hc ih hk (.inr ⟨hz, hm⟩) h
end Go.Proofs.Ytcbklkcpjldcjaa

/- The tree as data: two nodes side by side. -/
namespace Go.Proofs.Ytcbklkcpjldcjaa
open Go.ChangeShapes Go.WideShapes Go.ChangeAt Go.RowKit
set_option maxRecDepth 100000
set_option linter.unusedSimpArgs false

/-- what a node's own rows stand for -/
def RepM (nodes : List NodeM) : Nat → NodeM → PL → List Nat → Prop
  | 0, m, L, ids => m.leaf = true ∧ m.kids = [] ∧ m.vals.length = m.keys.length ∧ L = m.keys.zip m.vals ∧ ids = []
  | d + 1, m, L, ids => m.leaf = false ∧ m.vals = [] ∧ ∃ cs : List Kid, m.kids = cs.map Kid.id ∧ cs.length = m.keys.length + 1 ∧ (∀ c ∈ cs, Rep nodes d c.id c.L c.ids ∧ Fit nodes c.id) ∧ Seps m.keys cs ∧ SortedK m.keys ∧ L = cs.flatMap Kid.L ∧ ids = cs.flatMap Kid.ids
theorem repToM {nodes : List NodeM} {d i : Nat} {L : PL} {ids : List Nat} (h : Rep nodes d i L ids) : ∃ m ids', nodes[i]? = some m ∧ RepM nodes d m L ids' ∧ ids = i :: ids' := by
  cases d with
  | zero => obtain ⟨m, h1, h2, h3, h4, h5, h6⟩ := h; exact ⟨m, [], h1, ⟨h2, h3, h4, h5, rfl⟩, h6⟩
  | succ d => obtain ⟨m, h1, h2, h3, cs, h4, h5, h6, h7, h8, h9, h10⟩ := h; exact ⟨m, _, h1, ⟨h2, h3, cs, h4, h5, h6, h7, h8, h9, rfl⟩, h10⟩
theorem RepM.toRep {nodes : List NodeM} {d i : Nat} {m : NodeM} {L : PL} {ids : List Nat} (h : RepM nodes d m L ids) (hi : nodes[i]? = some m) : Rep nodes d i L (i :: ids) := by
  cases d with
  | zero => obtain ⟨h2, h3, h4, h5, rfl⟩ := h; exact ⟨m, hi, h2, h3, h4, h5, rfl⟩
  | succ d => obtain ⟨h2, h3, cs, h4, h5, h6, h7, h8, h9, rfl⟩ := h; exact ⟨m, hi, h2, h3, cs, h4, h5, h6, h7, h8, h9, rfl⟩
theorem RepM.frame {nodes nodes' : List NodeM} {d : Nat} {m : NodeM} {L : PL} {ids : List Nat} (h : RepM nodes d m L ids) (hf : ∀ x ∈ ids, nodes'[x]? = nodes[x]?) : RepM nodes' d m L ids := by
  cases d with
  | zero => exact h
  | succ d =>
    obtain ⟨h2, h3, cs, h4, h5, h6, h7, h8, h9, rfl⟩ := h
    refine ⟨h2, h3, cs, h4, h5, fun c hc => ?_, h7, h8, h9, rfl⟩
    have hsub : ∀ x ∈ c.ids, nodes'[x]? = nodes[x]? := fun x hx => hf x (List.mem_flatMap.2 ⟨c, hc, hx⟩)
    obtain ⟨h10, h11⟩ := h6 c hc
    exact ⟨h10.frame hsub, h11.frame (hsub _ h10.self)⟩
theorem RepM.leaf {nodes : List NodeM} {d : Nat} {m : NodeM} {L : PL} {ids : List Nat} (h : RepM nodes d m L ids) : m.leaf = (d == 0) := by
  cases d with
  | zero => exact h.1
  | succ d => exact h.1

theorem delAt_get {α : Type} (l : List α) (c j : Nat) : (delAt l c)[j]? = if j < c then l[j]? else l[j + 1]? := by
  unfold delAt
  by_cases h : j < c
  · rw [if_pos h]
    by_cases hl : j < l.length
    · rw [List.getElem?_append_left (by rw [List.length_take]; omega), List.getElem?_take, if_pos h]
    · rw [List.getElem?_eq_none (by simp; omega), List.getElem?_eq_none (by omega)]
  · rw [if_neg h]
    by_cases hl : c ≤ l.length
    · have e : (l.take c).length = c := by rw [List.length_take]; omega
      rw [List.getElem?_append_right (by omega), e, List.getElem?_drop, show c + 1 + (j - c) = j + 1 by omega]
    · rw [List.getElem?_eq_none (by simp; omega), List.getElem?_eq_none (by omega)]
theorem ins_del {α : Type} (l : List α) (c : Nat) (x : α) (h : c < l.length) : insAt (delAt l c) c x = l.set c x := by
  refine List.ext_getElem? (fun j => ?_)
  have hd := delAt_len l c h
  rw [insAt_get _ _ _ (by omega)]
  by_cases h1 : j < c
  · rw [if_pos h1, delAt_get, if_pos h1, List.getElem?_set_ne (by omega)]
  · rw [if_neg h1]
    by_cases h2 : j = c
    · subst h2; rw [if_pos rfl, List.getElem?_set_self h]
    · rw [if_neg h2, delAt_get, if_neg (by omega), show j - 1 + 1 = j by omega, List.getElem?_set_ne (by omega)]
theorem Seps.join {keys : List Val} {A Bs : List Kid} {cx cy cm : Kid} (h : Seps keys (A ++ cx :: cy :: Bs)) (hL : cm.L = cx.L ++ cy.L) : Seps (delAt keys A.length) (A ++ cm :: Bs) := by
  intro j k hk
  rw [delAt_get] at hk
  have e3 : A ++ cx :: cy :: Bs = (A ++ [cx]) ++ cy :: Bs := by simp
  split at hk
  · rename_i hj
    obtain ⟨g1, g2⟩ := h j k hk
    rw [take_mid, if_pos (by omega)] at g1 ⊢
    rw [drop_mid, if_pos (by omega)] at g2 ⊢
    refine ⟨g1, fun x hx => g2 x ?_⟩
    simp only [List.flatMap_append, List.flatMap_cons, hL, List.mem_append] at hx ⊢
    rcases hx with hx | (hx | hx) | hx
    · exact .inl hx
    · exact .inr (.inl hx)
    · exact .inr (.inr (.inl hx))
    · exact .inr (.inr (.inr hx))
  · rename_i hj
    obtain ⟨g1, g2⟩ := h (j + 1) k hk
    rw [e3, take_mid, if_neg (by simp; omega)] at g1
    rw [e3, drop_mid, if_neg (by simp; omega)] at g2
    rw [take_mid, if_neg (by omega), drop_mid, if_neg (by omega)]
    simp only [List.length_append, List.length_singleton] at g1 g2
    rw [show j + 1 - A.length - 1 = j + 1 + 1 - (A.length + 1) - 1 by omega]
    refine ⟨fun x hx => g1 x ?_, g2⟩
    simp only [List.flatMap_append, List.flatMap_cons, List.flatMap_nil, List.append_nil, hL, List.mem_append] at hx ⊢
    rcases hx with hx | (hx | hx) | hx
    · exact .inl (.inl hx)
    · exact .inl (.inr hx)
    · exact .inr (.inl hx)
    · exact .inr (.inr hx)
theorem delAt_sub {α : Type} (l : List α) (c : Nat) : (delAt l c).Sublist l := by
  unfold delAt
  have := List.Sublist.append (List.Sublist.refl (l.take c)) (List.drop_sublist_drop_left l (show c ≤ c + 1 by omega))
  rw [List.take_append_drop] at this
  exact this
/-- between two nodes side by side something moves -/
theorem Seps.move {keys : List Val} {A Bs : List Kid} {cx cy kx ky : Kid} {sep : Val} (hlen : (A ++ cx :: cy :: Bs).length = keys.length + 1) (h : Seps keys (A ++ cx :: cy :: Bs)) (hs : SortedK keys)
    (hL : cx.L ++ cy.L = kx.L ++ ky.L) (h1 : ∀ x ∈ kx.L, valCmp x.1 sep < 0) (h2 : ∀ x ∈ ky.L, valCmp sep x.1 ≤ 0) (hn1 : kx.L ≠ []) (hn2 : ky.L ≠ []) :
    Seps (keys.set A.length sep) (A ++ kx :: ky :: Bs) ∧ SortedK (keys.set A.length sep) := by
  simp only [List.length_append, List.length_cons] at hlen
  have hd := delAt_len keys A.length (by omega)
  have hj := h.join (cm := ⟨0, cx.L ++ cy.L, []⟩) rfl
  have := Seps.split (k1 := kx) (k2 := ky) (sep := sep) (by simp; omega) hj (hs.sublist (delAt_sub _ _)) hL h1 h2 hn1 hn2
  rw [ins_del _ _ _ (by omega)] at this
  exact this

/-! ### the rows of two nodes, one behind the other -/
theorem Seps.concat {kx ky : List Val} {cx cy : List Kid} {sk : Val} (hx : Seps kx cx) (hy : Seps ky cy) (hlx : cx.length = kx.length + 1) (hly : cy.length = ky.length + 1) (hsx : SortedK kx) (hsy : SortedK ky)
    (h1 : ∀ x ∈ cx.flatMap Kid.L, valCmp x.1 sk < 0) (h2 : ∀ x ∈ cy.flatMap Kid.L, valCmp sk x.1 ≤ 0) (hnx : ∀ c ∈ cx, c.L ≠ []) (hny : ∀ c ∈ cy, c.L ≠ []) :
    Seps (kx ++ sk :: ky) (cx ++ cy) ∧ SortedK (kx ++ sk :: ky) := by
  -- each key of x lies below sk, sk below each key of y
  have lx : ∀ j k, kx[j]? = some k → valCmp k sk < 0 := fun j k hk => by
    have hlt := (List.getElem?_eq_some_iff.1 hk).1
    have hc : cx[j + 1]? = some cx[j + 1] := List.getElem?_eq_getElem (by omega)
    obtain ⟨y, hy'⟩ := List.exists_mem_of_ne_nil _ (hnx _ (List.mem_of_getElem? hc))
    have h3 := (hx j k hk).2 y (List.mem_flatMap.2 ⟨_, by rw [List.drop_eq_getElem_cons (by omega)]; exact List.mem_cons_self .., hy'⟩)
    exact le_lt h3 (h1 y (List.mem_flatMap.2 ⟨_, List.mem_of_getElem? hc, hy'⟩))
  have ly : ∀ j k, ky[j]? = some k → valCmp sk k < 0 := fun j k hk => by
    have hlt := (List.getElem?_eq_some_iff.1 hk).1
    have hc : cy[j]? = some cy[j] := List.getElem?_eq_getElem (by omega)
    obtain ⟨y, hy'⟩ := List.exists_mem_of_ne_nil _ (hny _ (List.mem_of_getElem? hc))
    have hm : cy[j] ∈ cy.take (j + 1) := List.mem_of_getElem? (i := j) (by rw [List.getElem?_take, if_pos (by omega)]; exact hc)
    have h3 := (hy j k hk).1 y (List.mem_flatMap.2 ⟨_, hm, hy'⟩)
    exact le_lt (h2 y (List.mem_flatMap.2 ⟨_, List.mem_of_getElem? hc, hy'⟩)) h3
  refine ⟨fun j k hk => ?_, ?_⟩
  · by_cases hj : j < kx.length
    · rw [List.getElem?_append_left hj] at hk
      obtain ⟨g1, g2⟩ := hx j k hk
      rw [List.take_append_of_le_length (by omega), List.drop_append_of_le_length (by omega)]
      refine ⟨g1, fun x hx' => ?_⟩
      rw [List.flatMap_append] at hx'
      rcases List.mem_append.1 hx' with h | h
      · exact g2 x h
      · have := lt_le (lx j k hk) (h2 x h); omega
    · rw [List.getElem?_append_right (by omega)] at hk
      by_cases hj2 : j = kx.length
      · subst hj2
        rw [Nat.sub_self] at hk
        cases hk
        rw [show kx.length + 1 = cx.length by omega, List.take_left, List.drop_left]
        exact ⟨h1, h2⟩
      · obtain ⟨q, hq⟩ : ∃ q, j = kx.length + (q + 1) := ⟨j - kx.length - 1, by omega⟩
        subst hq
        rw [show kx.length + (q + 1) - kx.length = q + 1 by omega, List.getElem?_cons_succ] at hk
        obtain ⟨g1, g2⟩ := hy q k hk
        rw [show kx.length + (q + 1) + 1 = cx.length + (q + 1) by omega, List.take_length_add_append, List.drop_length_add_append]
        refine ⟨fun x hx' => ?_, g2⟩
        rw [List.flatMap_append] at hx'
        rcases List.mem_append.1 hx' with h | h
        · exact lt_trans' (h1 x h) (ly q k hk)
        · exact g1 x h
  · unfold SortedK
    rw [List.pairwise_append, List.pairwise_cons]
    refine ⟨hsx, ⟨fun a ha => ?_, hsy⟩, fun a ha b hb => ?_⟩
    · obtain ⟨j, hj⟩ := List.mem_iff_getElem?.1 ha
      exact ly j a hj
    · obtain ⟨j, hj⟩ := List.mem_iff_getElem?.1 ha
      rcases List.mem_cons.1 hb with rfl | hb
      · exact lx j a hj
      · obtain ⟨j', hj'⟩ := List.mem_iff_getElem?.1 hb
        exact lt_trans' (lx j a hj) (ly j' b hj')
theorem RepM.kids_ne {nodes : List NodeM} {d : Nat} {cs : List Kid} (h : ∀ c ∈ cs, Rep nodes d c.id c.L c.ids ∧ Fit nodes c.id) : ∀ c ∈ cs, c.L ≠ [] := fun c hc => by
  obtain ⟨hr, m, hm, hf, _⟩ := h c hc
  exact hr.some ⟨m, hm, by omega⟩
/-- inner nodes one behind the other -/
theorem RepM.concat {nodes : List NodeM} {d : Nat} {mx my : NodeM} {lx ly : PL} {ix iy : List Nat} {sk : Val} (hx : RepM nodes (d + 1) mx lx ix) (hy : RepM nodes (d + 1) my ly iy) (h1 : ∀ x ∈ lx, valCmp x.1 sk < 0) (h2 : ∀ x ∈ ly, valCmp sk x.1 ≤ 0) (m : NodeM)
    (hm1 : m.leaf = false) (hm2 : m.vals = []) (hm3 : m.keys = mx.keys ++ sk :: my.keys) (hm4 : m.kids = mx.kids ++ my.kids) : RepM nodes (d + 1) m (lx ++ ly) (ix ++ iy) := by
  obtain ⟨a1, a2, cx, a3, a4, a5, a6, a7, rfl, rfl⟩ := hx
  obtain ⟨b1, b2, cy, b3, b4, b5, b6, b7, rfl, rfl⟩ := hy
  obtain ⟨s1, s2⟩ := Seps.concat a6 b6 a4 b4 a7 b7 h1 h2 (RepM.kids_ne a5) (RepM.kids_ne b5)
  rw [← hm3] at s1 s2
  refine ⟨hm1, hm2, cx ++ cy, by rw [hm4, a3, b3, List.map_append], by rw [hm3]; simp; omega, fun c hc => (List.mem_append.1 hc).elim (a5 c) (b5 c), s1, s2, by simp, by simp⟩
/-- an inner node's rows cut in two -/
theorem RepM.cut {nodes : List NodeM} {d h : Nat} {m m1 m2 : NodeM} {L : PL} {ids : List Nat} {s : Val} (hm : RepM nodes (d + 1) m L ids) (hs : m.keys[h]? = some s)
    (p1 : m1.leaf = false) (p2 : m1.vals = []) (p3 : m1.keys = m.keys.take h) (p4 : m1.kids = m.kids.take (h + 1)) (q1 : m2.leaf = false) (q2 : m2.vals = []) (q3 : m2.keys = m.keys.drop (h + 1)) (q4 : m2.kids = m.kids.drop (h + 1)) :
    ∃ l1 l2 i1 i2, RepM nodes (d + 1) m1 l1 i1 ∧ RepM nodes (d + 1) m2 l2 i2 ∧ L = l1 ++ l2 ∧ ids = i1 ++ i2 ∧ (∀ x ∈ l1, valCmp x.1 s < 0) ∧ (∀ x ∈ l2, valCmp s x.1 ≤ 0) ∧ l1 ≠ [] ∧ l2 ≠ [] := by
  obtain ⟨a1, a2, cs, a3, a4, a5, a6, a7, rfl, rfl⟩ := hm
  have hlt := (List.getElem?_eq_some_iff.1 hs).1
  obtain ⟨g1, g2⟩ := a6 h s hs
  have hne := RepM.kids_ne a5
  have some_of : ∀ l : List Kid, l ≠ [] → (∀ c ∈ l, c ∈ cs) → l.flatMap Kid.L ≠ [] := fun l hl hsub e => by
    obtain ⟨c, hc⟩ := List.exists_mem_of_ne_nil _ hl
    obtain ⟨y, hy⟩ := List.exists_mem_of_ne_nil _ (hne c (hsub c hc))
    have : y ∈ l.flatMap Kid.L := List.mem_flatMap.2 ⟨c, hc, hy⟩
    rw [e] at this; cases this
  refine ⟨(cs.take (h + 1)).flatMap Kid.L, (cs.drop (h + 1)).flatMap Kid.L, (cs.take (h + 1)).flatMap Kid.ids, (cs.drop (h + 1)).flatMap Kid.ids, ⟨p1, p2, cs.take (h + 1), by rw [p4, a3, List.map_take], by rw [p3]; simp; omega, fun c hc => a5 c (List.mem_of_mem_take hc), by rw [p3]; exact a6.take h, by rw [p3]; exact a7.sublist (List.take_sublist _ _), rfl, rfl⟩,
    ⟨q1, q2, cs.drop (h + 1), by rw [q4, a3, List.map_drop], by rw [q3]; simp; omega, fun c hc => a5 c (List.mem_of_mem_drop hc), by rw [q3]; exact a6.drop (h + 1), by rw [q3]; exact a7.sublist (List.drop_sublist _ _), rfl, rfl⟩,
    by rw [← List.flatMap_append, List.take_append_drop], by rw [← List.flatMap_append, List.take_append_drop], g1, g2, ?_, ?_⟩
  · exact some_of _ (fun e => by have := congrArg List.length e; rw [List.length_take, List.length_nil] at this; omega) (fun c hc => List.mem_of_mem_take hc)
  · exact some_of _ (fun e => by have := congrArg List.length e; rw [List.length_drop, List.length_nil] at this; omega) (fun c hc => List.mem_of_mem_drop hc)
/-- leaves one behind the other; a leaf's rows cut in two -/
theorem RepM.concat0 {nodes : List NodeM} {mx my : NodeM} {lx ly : PL} {ix iy : List Nat} (hx : RepM nodes 0 mx lx ix) (hy : RepM nodes 0 my ly iy) (m : NodeM)
    (hm1 : m.leaf = true) (hm2 : m.kids = []) (hm3 : m.keys = mx.keys ++ my.keys) (hm4 : m.vals = mx.vals ++ my.vals) : RepM nodes 0 m (lx ++ ly) (ix ++ iy) := by
  obtain ⟨a1, a2, a3, rfl, rfl⟩ := hx
  obtain ⟨b1, b2, b3, rfl, rfl⟩ := hy
  exact ⟨hm1, hm2, by rw [hm3, hm4, List.length_append, List.length_append, a3, b3], by rw [hm3, hm4, List.zip_append (by omega)], rfl⟩
theorem RepM.cut0 {nodes : List NodeM} {h : Nat} {m m1 m2 : NodeM} {L : PL} {ids : List Nat} {s : Val} (hm : RepM nodes 0 m L ids) (hsL : SortedL L) (hs : m.keys[h]? = some s) (h0 : 0 < h)
    (p1 : m1.leaf = true) (p2 : m1.kids = []) (p3 : m1.keys = m.keys.take h) (p4 : m1.vals = m.vals.take h) (q1 : m2.leaf = true) (q2 : m2.kids = []) (q3 : m2.keys = m.keys.drop h) (q4 : m2.vals = m.vals.drop h) :
    ∃ l1 l2 i1 i2, RepM nodes 0 m1 l1 i1 ∧ RepM nodes 0 m2 l2 i2 ∧ L = l1 ++ l2 ∧ ids = i1 ++ i2 ∧ (∀ x ∈ l1, valCmp x.1 s < 0) ∧ (∀ x ∈ l2, valCmp s x.1 ≤ 0) ∧ l1 ≠ [] ∧ l2 ≠ [] := by
  obtain ⟨a1, a2, a3, rfl, rfl⟩ := hm
  have hlt := (List.getElem?_eq_some_iff.1 hs).1
  have hsk : SortedK m.keys := sortedK_of a3 hsL
  have hzl : (m.keys.zip m.vals).length = m.keys.length := by rw [List.length_zip, a3]; omega
  refine ⟨(m.keys.zip m.vals).take h, (m.keys.zip m.vals).drop h, [], [], ⟨p1, p2, by rw [p3, p4]; simp [a3], by rw [p3, p4, zip_take], rfl⟩, ⟨q1, q2, by rw [q3, q4]; simp [a3], by rw [q3, q4, zip_drop], rfl⟩, (List.take_append_drop _ _).symm, rfl, ?_, ?_, ?_, ?_⟩
  · refine mem_take_get (fun j p hj hl => ?_)
    have hg := zip_get hj
    have hjl := (List.getElem?_eq_some_iff.1 hg).1
    have := List.pairwise_iff_getElem.1 hsk j h hjl hlt hl
    rw [List.getElem?_eq_getElem hlt] at hs
    rw [List.getElem?_eq_getElem hjl] at hg
    rw [Option.some.inj hs, Option.some.inj hg] at this
    exact this
  · refine mem_drop_get (fun j p hj hge => ?_)
    have hg := zip_get hj
    have hjl := (List.getElem?_eq_some_iff.1 hg).1
    rw [List.getElem?_eq_getElem hlt] at hs
    by_cases he : j = h
    · subst he
      rw [List.getElem?_eq_getElem hlt, hs] at hg
      rw [Option.some.inj hg, cmp_self]
      exact Int.le_refl _
    · have := List.pairwise_iff_getElem.1 hsk h j hlt hjl (by omega)
      rw [List.getElem?_eq_getElem hjl] at hg
      rw [Option.some.inj hs, Option.some.inj hg] at this
      omega
  · intro e; have := congrArg List.length e; rw [List.length_take, hzl, List.length_nil] at this; omega
  · intro e; have := congrArg List.length e; rw [List.length_drop, hzl, List.length_nil] at this; omega
end Go.Proofs.Ytcbklkcpjldcjaa

/- The tree as data: something moves between two nodes; two become one. -/
namespace Go.Proofs.Ytcbklkcpjldcjaa
open Go.ChangeShapes Go.WideShapes Go.ChangeAt Go.RowKit
set_option maxRecDepth 100000
set_option linter.unusedSimpArgs false

theorem tri_get {T : TM} {i a b : Nat} {x y z : NodeM} (hi : i < T.nodes.length) (ha : a < T.nodes.length) (hb : b < T.nodes.length) (j : Nat) :
    (T.tri i a b x y z).nodes[j]? = if b = j then some z else if a = j then some y else if i = j then some x else T.nodes[j]? := by
  unfold TM.tri
  dsimp only
  rw [List.getElem?_set, List.length_set, List.length_set]
  by_cases e1 : b = j
  · rw [if_pos e1, if_pos e1, if_pos hb]
  · rw [if_neg e1, if_neg e1, List.getElem?_set, List.length_set]
    by_cases e2 : a = j
    · rw [if_pos e2, if_pos e2, if_pos ha]
    · rw [if_neg e2, if_neg e2, List.getElem?_set]
      by_cases e3 : i = j
      · rw [if_pos e3, if_pos e3, if_pos hi]
      · rw [if_neg e3, if_neg e3]
theorem tri_len (T : TM) (i a b : Nat) (x y z : NodeM) : (T.tri i a b x y z).nodes.length = T.nodes.length := by unfold TM.tri; simp

/-- a node, and two neighbours below it -/
structure Two (T : TM) (d i : Nat) (m : NodeM) (A : List Kid) (cx cy : Kid) (Bs : List Kid) (ctx : List Nat) : Prop where
  hi : T.nodes[i]? = some m
  leaf : m.leaf = false
  vals : m.vals = []
  kids : m.kids = (A ++ cx :: cy :: Bs).map Kid.id
  len : (A ++ cx :: cy :: Bs).length = m.keys.length + 1
  oth : ∀ c ∈ A ++ Bs, Rep T.nodes d c.id c.L c.ids ∧ Fit T.nodes c.id
  hx : Rep T.nodes d cx.id cx.L cx.ids
  hy : Rep T.nodes d cy.id cy.L cy.ids
  seps : Seps m.keys (A ++ cx :: cy :: Bs)
  sorted : SortedK m.keys
  perm : ((i :: (A ++ cx :: cy :: Bs).flatMap Kid.ids) ++ ctx ++ T.free).Perm (List.range T.nodes.length)
section
variable {T : TM} {d i : Nat} {m : NodeM} {A : List Kid} {cx cy : Kid} {Bs : List Kid} {ctx : List Nat}
/-- no node is met twice -/
structure Apart (T : TM) (i : Nat) (A : List Kid) (cx cy : Kid) (Bs : List Kid) (ctx : List Nat) : Prop where
  lti : i < T.nodes.length
  ltx : cx.id < T.nodes.length
  lty : cy.id < T.nodes.length
  ix : i ≠ cx.id
  iy : i ≠ cy.id
  xy : cx.id ≠ cy.id
  other : ∀ c ∈ A ++ Bs, ∀ x ∈ c.ids, i ≠ x ∧ cx.id ≠ x ∧ cy.id ≠ x
  inx : ∀ ids, cx.ids = cx.id :: ids → ∀ x ∈ ids, i ≠ x ∧ cx.id ≠ x ∧ cy.id ≠ x
  iny : ∀ ids, cy.ids = cy.id :: ids → ∀ x ∈ ids, i ≠ x ∧ cx.id ≠ x ∧ cy.id ≠ x
  ctx : ∀ x ∈ ctx, i ≠ x ∧ cx.id ≠ x ∧ cy.id ≠ x
theorem Two.apart (h : Two T d i m A cx cy Bs ctx) : Apart T i A cx cy Bs ctx := by
  have hp := h.perm
  rw [List.flatMap_append, List.flatMap_cons, List.flatMap_cons] at hp
  have hnd := hp.nodup_iff.2 List.nodup_range
  have hmem : ∀ x, x ∈ ((i :: (A.flatMap Kid.ids ++ (cx.ids ++ (cy.ids ++ Bs.flatMap Kid.ids)))) ++ ctx ++ T.free) → x < T.nodes.length := fun x hx => List.mem_range.1 (hp.mem_iff.1 hx)
  have mx := h.hx.self
  have my := h.hy.self
  simp only [List.cons_append, List.append_assoc, List.nodup_cons, List.nodup_append, List.mem_append, not_or] at hnd hmem
  obtain ⟨⟨n1, n2, n3, n4, n5, n6⟩, ndA, ⟨ndx, ⟨ndy, ⟨ndB, _, hB⟩, hy⟩, hx⟩, hA⟩ := hnd
  refine ⟨hmem _ (by simp), hmem _ (by simp [mx]), hmem _ (by simp [my]), fun e => n2 (e ▸ mx), fun e => n3 (e ▸ my), fun e => hx _ mx _ (.inl (e ▸ my)) rfl, ?_, ?_, ?_, ?_⟩
  · intro c hc x hxx
    rcases List.mem_append.1 hc with hcA | hcB
    · have hm : x ∈ A.flatMap Kid.ids := List.mem_flatMap.2 ⟨c, hcA, hxx⟩
      exact ⟨fun e => n1 (e ▸ hm), fun e => hA _ hm _ (.inl mx) e.symm, fun e => hA _ hm _ (.inr (.inl my)) e.symm⟩
    · have hm : x ∈ Bs.flatMap Kid.ids := List.mem_flatMap.2 ⟨c, hcB, hxx⟩
      exact ⟨fun e => n4 (e ▸ hm), fun e => hx _ mx _ (.inr (.inl hm)) e, fun e => hy _ my _ (.inl hm) e⟩
  · intro ids he x hxx
    have hm : x ∈ cx.ids := by rw [he]; exact List.mem_cons_of_mem _ hxx
    rw [he] at ndx
    exact ⟨fun e => n2 (e ▸ hm), fun e => (List.nodup_cons.1 ndx).1 (e ▸ hxx), fun e => hx _ hm _ (.inl my) e.symm⟩
  · intro ids he x hxx
    have hm : x ∈ cy.ids := by rw [he]; exact List.mem_cons_of_mem _ hxx
    rw [he] at ndy
    exact ⟨fun e => n3 (e ▸ hm), fun e => hx _ mx _ (.inl hm) e, fun e => (List.nodup_cons.1 ndy).1 (e ▸ hxx)⟩
  · intro x hxx
    exact ⟨fun e => n5 (e ▸ hxx), fun e => hx _ mx _ (.inr (.inr (.inl hxx))) e, fun e => hy _ my _ (.inr (.inl hxx)) e⟩

/-- something moves between them -/
theorem Two.move (h : Two T d i m A cx cy Bs ctx) {ix iy i1 i2 : List Nat} {l1 l2 : PL} {mx my : NodeM} {sep : Val} (ex : cx.ids = cx.id :: ix) (ey : cy.ids = cy.id :: iy)
    (h1 : RepM T.nodes d mx l1 i1) (h2 : RepM T.nodes d my l2 i2) (hL : cx.L ++ cy.L = l1 ++ l2) (hI : ix ++ iy = i1 ++ i2) (s1 : ∀ x ∈ l1, valCmp x.1 sep < 0) (s2 : ∀ x ∈ l2, valCmp sep x.1 ≤ 0) (n1 : l1 ≠ []) (n2 : l2 ≠ [])
    (f1 : 2 ≤ mx.size ∧ mx.size ≤ 4) (f2 : 2 ≤ my.size ∧ my.size ≤ 4) :
    ∃ ids3, Rep (T.tri i cx.id cy.id { m with keys := m.keys.set A.length sep } mx my).nodes (d + 1) i ((A ++ cx :: cy :: Bs).flatMap Kid.L) ids3 ∧ (ids3 ++ ctx ++ T.free).Perm (List.range T.nodes.length) ∧
      (∀ x ∈ ctx, (T.tri i cx.id cy.id { m with keys := m.keys.set A.length sep } mx my).nodes[x]? = T.nodes[x]?) ∧ (T.tri i cx.id cy.id { m with keys := m.keys.set A.length sep } mx my).nodes[i]? = some { m with keys := m.keys.set A.length sep } := by
  have ap := h.apart
  have hg := tri_get (T := T) (i := i) (a := cx.id) (b := cy.id) (x := { m with keys := m.keys.set A.length sep }) (y := mx) (z := my) ap.lti ap.ltx ap.lty
  generalize T.tri i cx.id cy.id { m with keys := m.keys.set A.length sep } mx my = T' at hg ⊢
  have hsame : ∀ x, i ≠ x ∧ cx.id ≠ x ∧ cy.id ≠ x → T'.nodes[x]? = T.nodes[x]? := fun x hx => by rw [hg, if_neg hx.2.2, if_neg hx.2.1, if_neg hx.1]
  have hin : ∀ x ∈ i1 ++ i2, T'.nodes[x]? = T.nodes[x]? := fun x hx => by
    rw [← hI] at hx
    rcases List.mem_append.1 hx with hx | hx
    · exact hsame x (ap.inx ix ex x hx)
    · exact hsame x (ap.iny iy ey x hx)
  have gi : T'.nodes[i]? = some { m with keys := m.keys.set A.length sep } := by rw [hg, if_neg (Ne.symm ap.iy), if_neg (Ne.symm ap.ix), if_pos rfl]
  have gx : T'.nodes[cx.id]? = some mx := by rw [hg, if_neg (Ne.symm ap.xy), if_pos rfl]
  have gy : T'.nodes[cy.id]? = some my := by rw [hg, if_pos rfl]
  have r1 := (h1.frame (fun x hx => hin x (List.mem_append.2 (.inl hx)))).toRep gx
  have r2 := (h2.frame (fun x hx => hin x (List.mem_append.2 (.inr hx)))).toRep gy
  obtain ⟨q1, q2⟩ := Seps.move (kx := ⟨cx.id, l1, cx.id :: i1⟩) (ky := ⟨cy.id, l2, cy.id :: i2⟩) h.len h.seps h.sorted hL s1 s2 n1 n2
  refine ⟨i :: (A ++ ⟨cx.id, l1, cx.id :: i1⟩ :: ⟨cy.id, l2, cy.id :: i2⟩ :: Bs).flatMap Kid.ids, ⟨{ m with keys := m.keys.set A.length sep }, gi, h.leaf, h.vals, A ++ ⟨cx.id, l1, cx.id :: i1⟩ :: ⟨cy.id, l2, cy.id :: i2⟩ :: Bs, by dsimp only; rw [h.kids]; simp, by dsimp only; rw [List.length_set, ← h.len]; simp, fun c hc => ?_, q1, q2, ?_, rfl⟩, ?_, fun x hx => hsame x (ap.ctx x hx), gi⟩
  · have hoth : c ∈ A ++ Bs → Rep T'.nodes d c.id c.L c.ids ∧ Fit T'.nodes c.id := fun hc => by
      obtain ⟨hr, hf⟩ := h.oth c hc
      have hs : ∀ x ∈ c.ids, T'.nodes[x]? = T.nodes[x]? := fun x hx => hsame x (ap.other c hc x hx)
      exact ⟨hr.frame hs, hf.frame (hs _ hr.self)⟩
    rcases List.mem_append.1 hc with hc | hc
    · exact hoth (List.mem_append.2 (.inl hc))
    · rcases List.mem_cons.1 hc with rfl | hc
      · exact ⟨r1, mx, gx, f1⟩
      · rcases List.mem_cons.1 hc with rfl | hc
        · exact ⟨r2, my, gy, f2⟩
        · exact hoth (List.mem_append.2 (.inr hc))
  · simp only [List.flatMap_append, List.flatMap_cons]
    rw [← List.append_assoc cx.L, hL, List.append_assoc]
  · refine List.Perm.trans ?_ h.perm
    have e : ∀ a, (ix ++ iy).count a = (i1 ++ i2).count a := fun a => by rw [hI]
    rw [List.perm_iff_count]
    intro a
    have := e a
    simp only [List.count_append] at this
    simp only [List.flatMap_append, List.flatMap_cons, ex, ey, List.cons_append, List.count_append, List.count_cons, List.append_assoc]
    omega
/-- two become one -/
theorem Two.joined (h : Two T d i m A cx cy Bs ctx) {ix iy : List Nat} {mx my : NodeM} (ex : cx.ids = cx.id :: ix) (ey : cy.ids = cy.id :: iy)
    (h1 : RepM T.nodes d mx (cx.L ++ cy.L) (ix ++ iy)) (f1 : 2 ≤ mx.size ∧ mx.size ≤ 4) :
    ∃ ids3, Rep ((T.tri i cx.id cy.id { m with keys := delAt m.keys A.length, kids := delAt m.kids (A.length + 1) } mx my).give cy.id).nodes (d + 1) i ((A ++ cx :: cy :: Bs).flatMap Kid.L) ids3 ∧ (ids3 ++ ctx ++ (T.free ++ [cy.id])).Perm (List.range T.nodes.length) ∧
      (∀ x ∈ ctx, ((T.tri i cx.id cy.id { m with keys := delAt m.keys A.length, kids := delAt m.kids (A.length + 1) } mx my).give cy.id).nodes[x]? = T.nodes[x]?) ∧ ((T.tri i cx.id cy.id { m with keys := delAt m.keys A.length, kids := delAt m.kids (A.length + 1) } mx my).give cy.id).nodes[i]? = some { m with keys := delAt m.keys A.length, kids := delAt m.kids (A.length + 1) } := by
  have ap := h.apart
  have hg : ∀ j, ((T.tri i cx.id cy.id { m with keys := delAt m.keys A.length, kids := delAt m.kids (A.length + 1) } mx my).give cy.id).nodes[j]? = if cy.id = j then some (freshM false) else if cx.id = j then some mx else if i = j then some { m with keys := delAt m.keys A.length, kids := delAt m.kids (A.length + 1) } else T.nodes[j]? := by
    intro j
    unfold TM.give
    dsimp only
    rw [List.getElem?_set, tri_len]
    by_cases e1 : cy.id = j
    · rw [if_pos e1, if_pos e1, if_pos ap.lty]
    · rw [if_neg e1, if_neg e1, tri_get ap.lti ap.ltx ap.lty, if_neg e1]
  generalize (T.tri i cx.id cy.id { m with keys := delAt m.keys A.length, kids := delAt m.kids (A.length + 1) } mx my).give cy.id = T' at hg ⊢
  have hsame : ∀ x, i ≠ x ∧ cx.id ≠ x ∧ cy.id ≠ x → T'.nodes[x]? = T.nodes[x]? := fun x hx => by rw [hg, if_neg hx.2.2, if_neg hx.2.1, if_neg hx.1]
  have hin : ∀ x ∈ ix ++ iy, T'.nodes[x]? = T.nodes[x]? := fun x hx => by
    rcases List.mem_append.1 hx with hx | hx
    · exact hsame x (ap.inx ix ex x hx)
    · exact hsame x (ap.iny iy ey x hx)
  have gi : T'.nodes[i]? = some { m with keys := delAt m.keys A.length, kids := delAt m.kids (A.length + 1) } := by rw [hg, if_neg (Ne.symm ap.iy), if_neg (Ne.symm ap.ix), if_pos rfl]
  have gx : T'.nodes[cx.id]? = some mx := by rw [hg, if_neg (Ne.symm ap.xy), if_pos rfl]
  have r1 := (h1.frame hin).toRep gx
  have hlen := h.len
  simp only [List.length_append, List.length_cons] at hlen
  have q1 := Seps.join (cm := ⟨cx.id, cx.L ++ cy.L, cx.id :: (ix ++ iy)⟩) h.seps rfl
  have q2 := h.sorted.sublist (delAt_sub m.keys A.length)
  refine ⟨i :: (A ++ ⟨cx.id, cx.L ++ cy.L, cx.id :: (ix ++ iy)⟩ :: Bs).flatMap Kid.ids, ⟨{ m with keys := delAt m.keys A.length, kids := delAt m.kids (A.length + 1) }, gi, h.leaf, h.vals, A ++ ⟨cx.id, cx.L ++ cy.L, cx.id :: (ix ++ iy)⟩ :: Bs, ?_, ?_, fun c hc => ?_, q1, q2, ?_, rfl⟩, ?_, fun x hx => hsame x (ap.ctx x hx), gi⟩
  · dsimp only
    unfold delAt
    rw [h.kids]
    simp only [List.map_append, List.map_cons]
    have t1 : (A.map Kid.id ++ cx.id :: cy.id :: Bs.map Kid.id).take (A.length + 1) = A.map Kid.id ++ [cx.id] := by
      rw [show A.map Kid.id ++ cx.id :: cy.id :: Bs.map Kid.id = (A.map Kid.id ++ [cx.id]) ++ cy.id :: Bs.map Kid.id by simp, show A.length + 1 = (A.map Kid.id ++ [cx.id]).length by simp, List.take_left]
    have t2 : (A.map Kid.id ++ cx.id :: cy.id :: Bs.map Kid.id).drop (A.length + 1 + 1) = Bs.map Kid.id := by
      rw [show A.map Kid.id ++ cx.id :: cy.id :: Bs.map Kid.id = (A.map Kid.id ++ [cx.id, cy.id]) ++ Bs.map Kid.id by simp, show A.length + 1 + 1 = (A.map Kid.id ++ [cx.id, cy.id]).length by simp, List.drop_left]
    rw [t1, t2]
    simp
  · dsimp only
    have := delAt_len m.keys A.length (by omega)
    simp; omega
  · have hoth : c ∈ A ++ Bs → Rep T'.nodes d c.id c.L c.ids ∧ Fit T'.nodes c.id := fun hc => by
      obtain ⟨hr, hf⟩ := h.oth c hc
      have hs : ∀ x ∈ c.ids, T'.nodes[x]? = T.nodes[x]? := fun x hx => hsame x (ap.other c hc x hx)
      exact ⟨hr.frame hs, hf.frame (hs _ hr.self)⟩
    rcases List.mem_append.1 hc with hc | hc
    · exact hoth (List.mem_append.2 (.inl hc))
    · rcases List.mem_cons.1 hc with rfl | hc
      · exact ⟨r1, mx, gx, f1⟩
      · exact hoth (List.mem_append.2 (.inr hc))
  · simp only [List.flatMap_append, List.flatMap_cons, List.append_assoc]
  · refine List.Perm.trans ?_ h.perm
    rw [List.perm_iff_count]
    intro a
    simp only [List.flatMap_append, List.flatMap_cons, ex, ey, List.cons_append, List.count_append, List.count_cons, List.count_nil, List.append_assoc]
    omega
end
end Go.Proofs.Ytcbklkcpjldcjaa

/- The tree as data: what fromLeft, fromRight, join do to a node with too little. -/
namespace Go.Proofs.Ytcbklkcpjldcjaa
open Go.ChangeShapes Go.WideShapes Go.ChangeAt Go.RowKit
set_option maxRecDepth 100000
set_option linter.unusedSimpArgs false

section
variable {T : TM} {d i : Nat} {m mx my : NodeM} {A : List Kid} {cx cy : Kid} {Bs : List Kid} {ctx : List Nat}
theorem Two.kx (h : Two T d i m A cx cy Bs ctx) : m.kids[A.length]? = some cx.id ∧ m.kids[A.length + 1]? = some cy.id := by
  rw [h.kids, List.getElem?_map, List.getElem?_map]
  rw [List.getElem?_append_right (Nat.le_refl _), List.getElem?_append_right (by omega), Nat.sub_self, show A.length + 1 - A.length = 1 by omega]
  exact ⟨rfl, rfl⟩
theorem Two.sep (h : Two T d i m A cx cy Bs ctx) : ∃ sk, m.keys[A.length]? = some sk ∧ (∀ x ∈ cx.L, valCmp x.1 sk < 0) ∧ (∀ x ∈ cy.L, valCmp sk x.1 ≤ 0) ∧ A.length < m.keys.length ∧ m.kids.length = m.keys.length + 1 := by
  have hl := h.len
  simp only [List.length_append, List.length_cons] at hl
  obtain ⟨sk, hsk⟩ : ∃ sk, m.keys[A.length]? = some sk := ⟨_, List.getElem?_eq_getElem (by omega)⟩
  obtain ⟨g1, g2⟩ := h.seps _ sk hsk
  rw [take_mid, if_neg (by omega)] at g1
  rw [drop_mid, if_neg (by omega), show A.length + 1 - A.length - 1 = 0 by omega, List.drop_zero] at g2
  refine ⟨sk, hsk, fun x hx => g1 x ?_, fun x hx => g2 x ?_, by omega, by rw [h.kids, List.length_map, h.len]⟩
  · simp only [List.flatMap_append, List.flatMap_cons, List.mem_append]; exact .inr (.inl hx)
  · simp only [List.flatMap_cons, List.mem_append]; exact .inl hx
theorem last_drop {α : Type} {l : List α} {q : Nat} {x : α} (hl : l.length = q + 1) (hx : l[q]? = some x) : l.drop q = [x] := by
  have hlt : q < l.length := by omega
  rw [List.drop_eq_getElem_cons hlt, List.drop_of_length_le (by omega)]
  rw [List.getElem?_eq_getElem hlt] at hx
  rw [Option.some.inj hx]
theorem take_one_of {α : Type} {l : List α} {x : α} (h : l[0]? = some x) : l.take 1 = [x] := by cases l with
  | nil => simp at h
  | cons a l => simp at h; subst h; simp
theorem insAt0 {α : Type} (l : List α) (x : α) : insAt l 0 x = x :: l := by simp [insAt]
theorem delAt0 {α : Type} (l : List α) : delAt l 0 = l.drop 1 := by simp [delAt]

/-- what there is behind an operation at node i -/
structure Done (T T' : TM) (d i : Nat) (L : PL) (ctx : List Nat) (n : Nat) : Prop where
  rep : ∃ ids3, Rep T'.nodes (d + 1) i L ids3 ∧ (ids3 ++ ctx ++ T'.free).Perm (List.range T'.nodes.length)
  ctx : ∀ x ∈ ctx, T'.nodes[x]? = T.nodes[x]?
  node : ∃ m3, T'.nodes[i]? = some m3 ∧ m3.leaf = false ∧ m3.size = n
  len : T'.nodes.length = T.nodes.length
  k : T'.k = T.k
abbrev AllKids (A : List Kid) (cx cy : Kid) (Bs : List Kid) : PL := (A ++ cx :: cy :: Bs).flatMap Kid.L

set_option maxHeartbeats 1000000 in
theorem op_left (h : Two T d i m A cx cy Bs ctx) (hmx : T.nodes[cx.id]? = some mx) (hmy : T.nodes[cy.id]? = some my) (zx : 3 ≤ mx.size ∧ mx.size ≤ 4) (zy : my.size = 1) (hsL : SortedL (cx.L ++ cy.L)) (hmk : m.kids.length ≤ 1000) :
    ∃ T', (∀ B D t, OpAt B D t T T' 80 i ((A.length + 1 : Nat) : Int)) ∧ Done T T' d i (AllKids A cx cy Bs) ctx m.size := by
  obtain ⟨mx', ix, hmx', rx, ex⟩ := repToM h.hx
  obtain ⟨my', iy, hmy', ry, ey⟩ := repToM h.hy
  rw [hmx] at hmx'; cases hmx'
  rw [hmy] at hmy'; cases hmy'
  obtain ⟨k1, k2⟩ := h.kx
  obtain ⟨sk, hsk, sx, sy, hlt, hkl⟩ := h.sep
  have ap := h.apart
  cases d with
  | zero =>
    have hxl : mx.leaf = true := rx.1
    have hyl : my.leaf = true := ry.1
    unfold NodeM.size at zx zy
    rw [hxl, if_pos rfl] at zx
    rw [hyl, if_pos rfl] at zy
    obtain ⟨q, hq⟩ : ∃ q, mx.keys.length = q + 1 := ⟨mx.keys.length - 1, by omega⟩
    have hxv : mx.vals.length = q + 1 := by rw [rx.2.2.1, hq]
    obtain ⟨xk, hxk⟩ : ∃ xk, mx.keys[q]? = some xk := ⟨_, List.getElem?_eq_getElem (by omega)⟩
    obtain ⟨xv, hxvv⟩ : ∃ xv, mx.vals[q]? = some xv := ⟨_, List.getElem?_eq_getElem (by omega)⟩
    have hcat := RepM.concat0 rx ry ⟨true, mx.keys ++ my.keys, mx.vals ++ my.vals, []⟩ rfl rfl rfl rfl
    obtain ⟨l1, l2, i1, i2, c1, c2, c3, c4, c5, c6, c7, c8⟩ := RepM.cut0 (h := q) (s := xk) (m1 := { mx with keys := mx.keys.take q, vals := mx.vals.take q }) (m2 := { my with keys := insAt my.keys 0 xk, vals := insAt my.vals 0 xv }) hcat hsL
      (by dsimp only; rw [List.getElem?_append_left (by omega)]; exact hxk) (by omega) hxl rx.2.1 (by dsimp only; rw [List.take_append_of_le_length (by omega)]) (by dsimp only; rw [List.take_append_of_le_length (by omega)]) hyl ry.2.1
      (by dsimp only; rw [List.drop_append_of_le_length (by omega), last_drop hq hxk, insAt0]; rfl) (by dsimp only; rw [List.drop_append_of_le_length (by omega), last_drop hxv hxvv, insAt0]; rfl)
    obtain ⟨ids3, r1, r2, r3, r4⟩ := h.move ex ey c1 c2 c3 c4 c5 c6 c7 c8 (by unfold NodeM.size; dsimp only; rw [hxl]; simp; omega) (by unfold NodeM.size; dsimp only; rw [hyl]; simp [insAt_len]; omega)
    exact ⟨_, fun B D t w l ha => fromLeft_leaf h.hi hmx hmy ap.ix ap.iy ap.xy k1 k2 hlt hmk hyl hq hxv ry.2.2.1 (by omega) (by omega) hxk hxvv hsk ha, ⟨ids3, r1, by rw [tri_len]; exact r2⟩, r3, ⟨_, r4, h.leaf, by unfold NodeM.size; dsimp only; rw [h.leaf]; rfl⟩, tri_len .., rfl⟩
  | succ d =>
    have hxl : mx.leaf = false := rx.1
    have hyl : my.leaf = false := ry.1
    obtain ⟨_, hxvals, csx, hxk1, hxk2, _⟩ := id rx
    obtain ⟨_, hyvals, csy, hyk1, hyk2, _⟩ := id ry
    have hxkl : mx.kids.length = mx.keys.length + 1 := by rw [hxk1, List.length_map, hxk2]
    have hykl : my.kids.length = my.keys.length + 1 := by rw [hyk1, List.length_map, hyk2]
    unfold NodeM.size at zx zy
    rw [hxl] at zx
    rw [hyl] at zy
    simp only [Bool.false_eq_true, if_false] at zx zy
    obtain ⟨q, hq⟩ : ∃ q, mx.keys.length = q + 1 := ⟨mx.keys.length - 1, by omega⟩
    have hxv : mx.kids.length = q + 2 := by omega
    obtain ⟨xk, hxk⟩ : ∃ xk, mx.keys[q]? = some xk := ⟨_, List.getElem?_eq_getElem (by omega)⟩
    obtain ⟨xd, hxd⟩ : ∃ xd, mx.kids[q + 1]? = some xd := ⟨_, List.getElem?_eq_getElem (by omega)⟩
    have hcat := RepM.concat rx ry sx sy ⟨false, mx.keys ++ sk :: my.keys, [], mx.kids ++ my.kids⟩ rfl rfl rfl rfl
    obtain ⟨l1, l2, i1, i2, c1, c2, c3, c4, c5, c6, c7, c8⟩ := RepM.cut (h := q) (s := xk) (m1 := { mx with keys := mx.keys.take q, kids := mx.kids.take (q + 1) }) (m2 := { my with keys := insAt my.keys 0 sk, kids := insAt my.kids 0 xd }) hcat
      (by dsimp only; rw [List.getElem?_append_left (by omega)]; exact hxk) hxl hxvals (by dsimp only; rw [List.take_append_of_le_length (by omega)]) (by dsimp only; rw [List.take_append_of_le_length (by omega)]) hyl hyvals
      (by dsimp only; rw [show q + 1 = mx.keys.length by omega, List.drop_left, insAt0]) (by dsimp only; rw [List.drop_append_of_le_length (by omega), last_drop hxv hxd, insAt0]; rfl)
    obtain ⟨ids3, r1, r2, r3, r4⟩ := h.move ex ey c1 c2 c3 c4 c5 c6 c7 c8 (by unfold NodeM.size; dsimp only; rw [hxl]; simp; omega) (by unfold NodeM.size; dsimp only; rw [hyl]; simp [insAt_len]; omega)
    exact ⟨_, fun B D t w l ha => fromLeft_inner h.hi hmx hmy ap.ix ap.iy ap.xy k1 k2 hlt hmk hyl hq hxv (by omega) (by omega) (by omega) hxk hxd hsk ha, ⟨ids3, r1, by rw [tri_len]; exact r2⟩, r3, ⟨_, r4, h.leaf, by unfold NodeM.size; dsimp only; rw [h.leaf]; rfl⟩, tri_len .., rfl⟩

set_option maxHeartbeats 1000000 in
theorem op_right (h : Two T d i m A cx cy Bs ctx) (hmx : T.nodes[cx.id]? = some mx) (hmy : T.nodes[cy.id]? = some my) (zx : mx.size = 1) (zy : 3 ≤ my.size ∧ my.size ≤ 4) (hsL : SortedL (cx.L ++ cy.L)) (hmk : m.kids.length ≤ 1000) :
    ∃ T', (∀ B D t, OpAt B D t T T' 81 i (A.length : Int)) ∧ Done T T' d i (AllKids A cx cy Bs) ctx m.size := by
  obtain ⟨mx', ix, hmx', rx, ex⟩ := repToM h.hx
  obtain ⟨my', iy, hmy', ry, ey⟩ := repToM h.hy
  rw [hmx] at hmx'; cases hmx'
  rw [hmy] at hmy'; cases hmy'
  obtain ⟨k1, k2⟩ := h.kx
  obtain ⟨sk, hsk, sx, sy, hlt, hkl⟩ := h.sep
  have ap := h.apart
  cases d with
  | zero =>
    have hxl : mx.leaf = true := rx.1
    have hyl : my.leaf = true := ry.1
    unfold NodeM.size at zx zy
    rw [hxl, if_pos rfl] at zx
    rw [hyl, if_pos rfl] at zy
    obtain ⟨q, hq⟩ : ∃ q, my.keys.length = q + 1 := ⟨my.keys.length - 1, by omega⟩
    have hyv : my.vals.length = q + 1 := by rw [ry.2.2.1, hq]
    have hxv : mx.vals.length = 1 := by rw [rx.2.2.1, zx]
    obtain ⟨yk, hyk⟩ : ∃ yk, my.keys[0]? = some yk := ⟨_, List.getElem?_eq_getElem (by omega)⟩
    obtain ⟨yk1, hyk1⟩ : ∃ yk1, my.keys[1]? = some yk1 := ⟨_, List.getElem?_eq_getElem (by omega)⟩
    obtain ⟨yd, hyd⟩ : ∃ yd, my.vals[0]? = some yd := ⟨_, List.getElem?_eq_getElem (by omega)⟩
    have t1 : my.keys.take 1 = [yk] := take_one_of hyk
    have t2 : my.vals.take 1 = [yd] := take_one_of hyd
    have hcat := RepM.concat0 rx ry ⟨true, mx.keys ++ my.keys, mx.vals ++ my.vals, []⟩ rfl rfl rfl rfl
    obtain ⟨l1, l2, i1, i2, c1, c2, c3, c4, c5, c6, c7, c8⟩ := RepM.cut0 (h := mx.keys.length + 1) (s := yk1) (m1 := { mx with keys := mx.keys ++ [yk], vals := mx.vals ++ [yd] }) (m2 := { my with keys := delAt my.keys 0, vals := delAt my.vals 0 }) hcat hsL
      (by dsimp only; rw [List.getElem?_append_right (by omega), show mx.keys.length + 1 - mx.keys.length = 1 by omega]; exact hyk1) (by omega) hxl rx.2.1 (by dsimp only; rw [List.take_length_add_append, t1]) (by dsimp only; rw [show mx.keys.length + 1 = mx.vals.length + 1 by omega, List.take_length_add_append, t2]) hyl ry.2.1
      (by dsimp only; rw [List.drop_length_add_append, delAt0]) (by dsimp only; rw [show mx.keys.length + 1 = mx.vals.length + 1 by omega, List.drop_length_add_append, delAt0])
    obtain ⟨ids3, r1, r2, r3, r4⟩ := h.move ex ey c1 c2 c3 c4 c5 c6 c7 c8 (by unfold NodeM.size; dsimp only; rw [hxl]; simp; omega) (by unfold NodeM.size; dsimp only; rw [hyl]; simp [delAt0]; omega)
    exact ⟨_, fun B D t w l ha => fromRight_leaf h.hi hmx hmy ap.ix ap.iy ap.xy k1 k2 hlt hmk hxl hq hyv (by omega) (by omega) (by omega) hyk hyd hsk hyk1 ha, ⟨ids3, r1, by rw [tri_len]; exact r2⟩, r3, ⟨_, r4, h.leaf, by unfold NodeM.size; dsimp only; rw [h.leaf]; rfl⟩, tri_len .., rfl⟩
  | succ d =>
    have hxl : mx.leaf = false := rx.1
    have hyl : my.leaf = false := ry.1
    obtain ⟨_, hxvals, csx, hxk1, hxk2, _⟩ := id rx
    obtain ⟨_, hyvals, csy, hyk1, hyk2, _⟩ := id ry
    have hxkl : mx.kids.length = mx.keys.length + 1 := by rw [hxk1, List.length_map, hxk2]
    have hykl : my.kids.length = my.keys.length + 1 := by rw [hyk1, List.length_map, hyk2]
    unfold NodeM.size at zx zy
    rw [hxl] at zx
    rw [hyl] at zy
    simp only [Bool.false_eq_true, if_false] at zx zy
    obtain ⟨q, hq⟩ : ∃ q, my.keys.length = q + 1 := ⟨my.keys.length - 1, by omega⟩
    have hyv : my.kids.length = q + 2 := by omega
    obtain ⟨yk, hyk⟩ : ∃ yk, my.keys[0]? = some yk := ⟨_, List.getElem?_eq_getElem (by omega)⟩
    obtain ⟨yd, hyd⟩ : ∃ yd, my.kids[0]? = some yd := ⟨_, List.getElem?_eq_getElem (by omega)⟩
    have t2 : my.kids.take 1 = [yd] := take_one_of hyd
    have hcat := RepM.concat rx ry sx sy ⟨false, mx.keys ++ sk :: my.keys, [], mx.kids ++ my.kids⟩ rfl rfl rfl rfl
    have ek : mx.keys ++ sk :: my.keys = (mx.keys ++ [sk]) ++ my.keys := by simp
    have el : mx.keys.length + 1 = (mx.keys ++ [sk]).length := by simp
    obtain ⟨l1, l2, i1, i2, c1, c2, c3, c4, c5, c6, c7, c8⟩ := RepM.cut (h := mx.keys.length + 1) (s := yk) (m1 := { mx with keys := mx.keys ++ [sk], kids := mx.kids ++ [yd] }) (m2 := { my with keys := delAt my.keys 0, kids := delAt my.kids 0 }) hcat
      (by dsimp only; rw [ek, List.getElem?_append_right (by simp), ← el, Nat.sub_self]; exact hyk) hxl hxvals (by dsimp only; rw [ek, el, List.take_left]) (by dsimp only; rw [show mx.keys.length + 1 + 1 = mx.kids.length + 1 by omega, List.take_length_add_append, t2]) hyl hyvals
      (by dsimp only; rw [ek, show mx.keys.length + 1 + 1 = (mx.keys ++ [sk]).length + 1 by simp, List.drop_length_add_append, delAt0]) (by dsimp only; rw [show mx.keys.length + 1 + 1 = mx.kids.length + 1 by omega, List.drop_length_add_append, delAt0])
    obtain ⟨ids3, r1, r2, r3, r4⟩ := h.move ex ey c1 c2 c3 c4 c5 c6 c7 c8 (by unfold NodeM.size; dsimp only; rw [hxl]; simp; omega) (by unfold NodeM.size; dsimp only; rw [hyl]; simp [delAt0]; omega)
    exact ⟨_, fun B D t w l ha => fromRight_inner h.hi hmx hmy ap.ix ap.iy ap.xy k1 k2 hlt hmk hxl hq hyv (by omega) (by omega) (by omega) hyk hyd hsk ha, ⟨ids3, r1, by rw [tri_len]; exact r2⟩, r3, ⟨_, r4, h.leaf, by unfold NodeM.size; dsimp only; rw [h.leaf]; rfl⟩, tri_len .., rfl⟩

set_option maxHeartbeats 1000000 in
theorem op_join (h : Two T d i m A cx cy Bs ctx) (hmx : T.nodes[cx.id]? = some mx) (hmy : T.nodes[cy.id]? = some my) (z : mx.size + my.size = 3) (hmk : m.kids.length ≤ 1000) (hbig : T.nodes.length ≤ 1000000) :
    ∃ T', (∀ B D t, OpAt B D t T T' 82 i (A.length : Int)) ∧ Done T T' d i (AllKids A cx cy Bs) ctx (m.size - 1) := by
  obtain ⟨mx', ix, hmx', rx, ex⟩ := repToM h.hx
  obtain ⟨my', iy, hmy', ry, ey⟩ := repToM h.hy
  rw [hmx] at hmx'; cases hmx'
  rw [hmy] at hmy'; cases hmy'
  obtain ⟨k1, k2⟩ := h.kx
  obtain ⟨sk, hsk, sx, sy, hlt, hkl⟩ := h.sep
  have ap := h.apart
  have hfl : T.free.length ≤ 1000000 := by have := h.perm.length_eq; simp at this; omega
  obtain ⟨q, hq⟩ : ∃ q, m.keys.length = q + 1 := ⟨m.keys.length - 1, by omega⟩
  have hd : (delAt m.kids (A.length + 1)).length + 1 = m.kids.length := delAt_len _ _ (by omega)
  cases d with
  | zero =>
    have hxl : mx.leaf = true := rx.1
    have hyl : my.leaf = true := ry.1
    unfold NodeM.size at z
    rw [hxl, hyl, if_pos rfl, if_pos rfl] at z
    have a1 := rx.2.1
    have a2 := ry.2.1
    have a3 := rx.2.2.1
    have a4 := ry.2.2.1
    have hcat := RepM.concat0 rx ry { mx with keys := mx.keys ++ my.keys, vals := mx.vals ++ my.vals, kids := mx.kids ++ my.kids } hxl (by dsimp only; rw [a1, a2]; rfl) rfl rfl
    obtain ⟨ids3, r1, r2, r3, r4⟩ := h.joined (my := my) ex ey hcat (by unfold NodeM.size; dsimp only; rw [hxl]; simp; omega)
    exact ⟨_, fun B D t w l ha => join_leaf h.hi hmx hmy ap.ix ap.iy ap.xy k1 k2 hlt hmk hxl hq (by omega) (by omega) (by omega) (by rw [a1]; simp) (by omega) (by omega) (by rw [a2]; simp) hsk hbig hfl ha, ⟨ids3, r1, by unfold TM.give; dsimp only; rw [List.length_set, tri_len]; exact r2⟩, r3, ⟨_, r4, h.leaf, by unfold NodeM.size; dsimp only; rw [h.leaf]; simp only [Bool.false_eq_true, if_false]; omega⟩, by unfold TM.give; dsimp only; rw [List.length_set, tri_len], rfl⟩
  | succ d =>
    have hxl : mx.leaf = false := rx.1
    have hyl : my.leaf = false := ry.1
    obtain ⟨_, hxvals, csx, hxk1, hxk2, _⟩ := id rx
    obtain ⟨_, hyvals, csy, hyk1, hyk2, _⟩ := id ry
    have hxkl : mx.kids.length = mx.keys.length + 1 := by rw [hxk1, List.length_map, hxk2]
    have hykl : my.kids.length = my.keys.length + 1 := by rw [hyk1, List.length_map, hyk2]
    unfold NodeM.size at z
    rw [hxl, hyl] at z
    simp only [Bool.false_eq_true, if_false] at z
    have hcat := RepM.concat rx ry sx sy { mx with keys := (mx.keys ++ [sk]) ++ my.keys, vals := mx.vals ++ my.vals, kids := mx.kids ++ my.kids } hxl (by dsimp only; rw [hxvals, hyvals]; rfl) (by dsimp only; simp) rfl
    obtain ⟨ids3, r1, r2, r3, r4⟩ := h.joined (my := my) ex ey hcat (by unfold NodeM.size; dsimp only; rw [hxl]; simp; omega)
    exact ⟨_, fun B D t w l ha => join_inner h.hi hmx hmy ap.ix ap.iy ap.xy k1 k2 hlt hmk hxl hq (by omega) (by omega) (by rw [hxvals]; simp) (by omega) (by omega) (by rw [hyvals]; simp) (by omega) hsk hbig hfl ha, ⟨ids3, r1, by unfold TM.give; dsimp only; rw [List.length_set, tri_len]; exact r2⟩, r3, ⟨_, r4, h.leaf, by unfold NodeM.size; dsimp only; rw [h.leaf]; simp only [Bool.false_eq_true, if_false]; omega⟩, by unfold TM.give; dsimp only; rw [List.length_set, tri_len], rfl⟩
end
end Go.Proofs.Ytcbklkcpjldcjaa

/- The tree as data: remove. -/
namespace Go.Proofs.Ytcbklkcpjldcjaa
open Go.ChangeShapes Go.WideShapes Go.ChangeAt Go.RowKit
set_option maxRecDepth 100000
set_option linter.unusedSimpArgs false

def delL (L : PL) (k : Val) : PL := L.filter (fun p => !decide (valCmp p.1 k = 0))
theorem delL_app (A B : PL) (k : Val) : delL (A ++ B) k = delL A k ++ delL B k := List.filter_append ..
theorem delL_id {L : PL} {k : Val} (h : ∀ x ∈ L, valCmp x.1 k ≠ 0) : delL L k = L := List.filter_eq_self.2 (fun x hx => by simpa using h x hx)
theorem delL_mid {A M Bs : PL} {k : Val} (hA : ∀ x ∈ A, valCmp x.1 k < 0) (hB : ∀ x ∈ Bs, valCmp k x.1 < 0) : delL (A ++ M ++ Bs) k = A ++ delL M k ++ Bs := by
  rw [delL_app, delL_app, delL_id (L := A) (fun x hx => by have := hA x hx; omega), delL_id (L := Bs) (fun x hx => by have := (gt_iff x.1 k).2 (hB x hx); omega)]
theorem delL_sorted {L : PL} {k : Val} (h : SortedL L) : SortedL (delL L k) := List.Pairwise.filter _ h
theorem delL_right {L : PL} {k : Val} (h : RightL L) : RightL (delL L k) := fun x hx => h x (List.mem_filter.1 hx).1
theorem delL_mem {L : PL} {k : Val} {x : Val × VT} (h : x ∈ delL L k) : x ∈ L := (List.mem_filter.1 h).1
theorem zip_delAt {α β : Type} (xs : List α) (ys : List β) (n : Nat) (h : ys.length = xs.length) : (delAt xs n).zip (delAt ys n) = (xs.zip ys).take n ++ (xs.zip ys).drop (n + 1) := by
  unfold delAt
  rw [List.zip_append (by simp [h]), zip_take, zip_drop]
theorem leaf_del {xs : List Val} {ys : List VT} {k : Val} (hl : ys.length = xs.length) (hs : SortedL (xs.zip ys)) (h : bsIs xs k = true) :
    (delAt xs (bsAt xs k)).zip (delAt ys (bsAt xs k)) = delL (xs.zip ys) k ∧ hasK (xs.zip ys) k = true := by
  have hsk := sortedK_of hl hs
  obtain ⟨x, hx, hx0⟩ := (bsIs_spec (ks := xs) k).1 h
  have hlt := (List.getElem?_eq_some_iff.1 hx).1
  obtain ⟨y, hy⟩ : ∃ y, ys[bsAt xs k]? = some y := ⟨_, List.getElem?_eq_getElem (by omega)⟩
  have hz : (xs.zip ys)[bsAt xs k]? = some (x, y) := List.getElem?_zip_eq_some.2 ⟨hx, hy⟩
  have hzl : bsAt xs k < (xs.zip ys).length := (List.getElem?_eq_some_iff.1 hz).1
  have e1 : xs.zip ys = (xs.zip ys).take (bsAt xs k) ++ [(x, y)] ++ (xs.zip ys).drop (bsAt xs k + 1) := by
    have := List.take_append_drop (bsAt xs k) (xs.zip ys)
    rw [List.drop_eq_getElem_cons hzl] at this
    rw [List.getElem?_eq_getElem hzl] at hz
    rw [Option.some.inj hz] at this
    rw [List.append_assoc]
    exact this.symm
  have hA : ∀ p ∈ (xs.zip ys).take (bsAt xs k), valCmp p.1 k < 0 := mem_take_get (fun j p hj hlt => (bsAt_spec k hsk j p.1 (zip_get hj)).1 hlt)
  have hB : ∀ p ∈ (xs.zip ys).drop (bsAt xs k + 1), valCmp k p.1 < 0 := mem_drop_get (fun j p hj hge => by
    have h1 := zip_get hj
    have hjl := (List.getElem?_eq_some_iff.1 h1).1
    have := List.pairwise_iff_getElem.1 hsk (bsAt xs k) j hlt hjl (by omega)
    rw [List.getElem?_eq_getElem hlt] at hx
    rw [List.getElem?_eq_getElem hjl] at h1
    rw [Option.some.inj hx, Option.some.inj h1] at this
    refine le_lt ?_ this
    rw [cmp_swap]; omega)
  refine ⟨?_, ?_⟩
  · rw [zip_delAt _ _ _ hl]
    conv => rhs; rw [e1]
    rw [delL_mid hA hB]
    have : delL [(x, y)] k = [] := by simp [delL, hx0]
    rw [this, List.append_nil]
  · unfold hasK
    exact List.any_eq_true.2 ⟨_, List.mem_of_getElem? hz, by simp [hx0]⟩
theorem leaf_absent {xs : List Val} {ys : List VT} {k : Val} (hl : ys.length = xs.length) (hs : SortedL (xs.zip ys)) (h : bsIs xs k = false) : delL (xs.zip ys) k = xs.zip ys ∧ hasK (xs.zip ys) k = false := by
  have h2 := (leaf_fresh (v := SlotT.none) hl hs h).2
  refine ⟨delL_id (fun x hx e => ?_), h2⟩
  unfold hasK at h2
  have := List.any_eq_false.1 h2 x hx
  simp [e] at this

theorem mend_law {T : TM} {d i : Nat} {m mk : NodeM} {A Bs : List Kid} {c1 : Kid} {ctx : List Nat} (hi : T.nodes[i]? = some m) (hl : m.leaf = false) (hv : m.vals = []) (hk : m.kids = (A ++ c1 :: Bs).map Kid.id) (hlen : (A ++ c1 :: Bs).length = m.keys.length + 1)
    (hA : ∀ c ∈ A ++ Bs, Rep T.nodes d c.id c.L c.ids ∧ Fit T.nodes c.id) (h1 : Rep T.nodes d c1.id c1.L c1.ids) (hmk : T.nodes[c1.id]? = some mk) (hz : mk.size = 1) (hse : Seps m.keys (A ++ c1 :: Bs)) (hsk : SortedK m.keys) (hsL : SortedL ((A ++ c1 :: Bs).flatMap Kid.L))
    (hp : ((i :: (A ++ c1 :: Bs).flatMap Kid.ids) ++ ctx ++ T.free).Perm (List.range T.nodes.length)) (hm4 : m.size ≤ 4) (hm2 : 2 ≤ m.size) (hbig : T.nodes.length ≤ 1000000) :
    ∃ T' n, MendAt T T' i A.length ∧ Done T T' d i ((A ++ c1 :: Bs).flatMap Kid.L) ctx n ∧ (n = m.size ∨ n + 1 = m.size) := by
  have hms : m.size = (A ++ c1 :: Bs).length := by unfold NodeM.size; rw [hl, hk, List.length_map]; rfl
  have hkl : m.kids.length ≤ 1000 := by rw [hk, List.length_map]; omega
  rcases List.eq_nil_or_concat A with rfl | ⟨A', cl, rfl⟩
  · cases Bs with
    | nil => rw [hms] at hm2; simp at hm2
    | cons cr Bs =>
      obtain ⟨hr, mb, hmb, hb2, hb4⟩ := hA cr (by simp)
      have two : Two T d i m [] c1 cr Bs ctx := ⟨hi, hl, hv, hk, hlen, fun c hc => hA c (by simp at hc ⊢; exact .inr hc), h1, hr, hse, hsk, hp⟩
      have hs2 : SortedL (c1.L ++ cr.L) := by
        simp only [List.nil_append, List.flatMap_cons] at hsL
        rw [← List.append_assoc] at hsL
        exact (List.pairwise_append.1 hsL).1
      have kb : m.kids[1]? = some cr.id := two.kx.2
      by_cases hb : 2 < mb.size
      · obtain ⟨T', ho, hd⟩ := op_right two hmk hmb hz ⟨by omega, hb4⟩ hs2 hkl
        exact ⟨T', m.size, fun w l ha => mend_right0 hi hkl kb hmb hb (ho _ _ _) ha, hd, .inl rfl⟩
      · obtain ⟨T', ho, hd⟩ := op_join two hmk hmb (by omega) hkl hbig
        exact ⟨T', m.size - 1, fun w l ha => mend_joinr hi hkl kb hmb (by omega) (ho _ _ _) ha, hd, .inr (by omega)⟩
  · rw [List.concat_eq_append] at *
    have e1 : (A' ++ [cl]) ++ c1 :: Bs = A' ++ cl :: c1 :: Bs := by simp
    have eA : (A' ++ [cl]).length = A'.length + 1 := by simp
    obtain ⟨hr, ma, hma, ha2, ha4⟩ := hA cl (by simp)
    have two : Two T d i m A' cl c1 Bs ctx := ⟨hi, hl, hv, by rw [hk, e1], by rw [← e1]; exact hlen, fun c hc => hA c (by simp at hc ⊢; rcases hc with h | h; exact .inl h; exact .inr (.inr h)), hr, h1, by rw [← e1]; exact hse, hsk, by rw [← e1]; exact hp⟩
    have hs1 : SortedL (cl.L ++ c1.L) := by
      rw [e1, List.flatMap_append, List.flatMap_cons, List.flatMap_cons, ← List.append_assoc cl.L] at hsL
      exact (List.pairwise_append.1 (List.pairwise_append.1 hsL).2.1).1
    have ka : m.kids[A'.length]? = some cl.id := two.kx.1
    by_cases ha : 2 < ma.size
    · obtain ⟨T', ho, hd⟩ := op_left two hma hmk ⟨by omega, ha4⟩ hz hs1 hkl
      exact ⟨T', m.size, fun w l hh => by rw [eA]; exact mend_left hi hkl ka hma ha (ho _ _ _) hh, by rw [e1]; exact hd, .inl rfl⟩
    · cases Bs with
      | nil =>
        obtain ⟨T', ho, hd⟩ := op_join two hma hmk (by omega) hkl hbig
        exact ⟨T', m.size - 1, fun w l hh => by rw [eA]; exact mend_joinl_end hi hkl ka hma (by omega) (by rw [hk]; simp) (ho _ _ _) hh, by rw [e1]; exact hd, .inr (by omega)⟩
      | cons cr Bs =>
        obtain ⟨hr2, mb, hmb, hb2, hb4⟩ := hA cr (by simp)
        have two2 : Two T d i m (A' ++ [cl]) c1 cr Bs ctx := ⟨hi, hl, hv, hk, hlen, fun c hc => hA c (by simp at hc ⊢; rcases hc with h | h | h; exact .inl h; exact .inr (.inl h); exact .inr (.inr (.inr h))), h1, hr2, hse, hsk, hp⟩
        have hs2 : SortedL (c1.L ++ cr.L) := by
          rw [List.flatMap_append, List.flatMap_cons, List.flatMap_cons, ← List.append_assoc c1.L] at hsL
          exact (List.pairwise_append.1 (List.pairwise_append.1 hsL).2.1).1
        have kb : m.kids[A'.length + 2]? = some cr.id := by have := two2.kx.2; rw [eA] at this; exact this
        by_cases hb : 2 < mb.size
        · obtain ⟨T', ho, hd⟩ := op_right two2 hmk hmb hz ⟨by omega, hb4⟩ hs2 hkl
          rw [eA] at ho
          exact ⟨T', m.size, fun w l hh => by rw [eA]; exact mend_right1 hi hkl ka hma (by omega) kb hmb hb (ho _ _ _) hh, hd, .inl rfl⟩
        · obtain ⟨T', ho, hd⟩ := op_join two hma hmk (by omega) hkl hbig
          exact ⟨T', m.size - 1, fun w l hh => by rw [eA]; exact mend_joinl hi hkl ka hma (by omega) kb hmb (by omega) (ho _ _ _) hh, by rw [e1]; exact hd, .inr (by omega)⟩

theorem remove_law {k : Val} : ∀ (d : Nat) (T : TM) (i : Nat) (L : PL) (ids ctx : List Nat), Rep T.nodes d i L ids → (ids ++ ctx ++ T.free).Perm (List.range T.nodes.length) → SortedL L → T.nodes.length ≤ 1000000 → (∀ m, T.nodes[i]? = some m → m.size ≤ 4 ∧ (m.leaf = false → 2 ≤ m.size)) →
    ∃ T' ids' m m', TM.RemR k T i T' (hasK L k) ∧ Rep T'.nodes d i (delL L k) ids' ∧ (ids' ++ ctx ++ T'.free).Perm (List.range T'.nodes.length) ∧ (∀ x ∈ ctx, T'.nodes[x]? = T.nodes[x]?) ∧ T.nodes[i]? = some m ∧ T'.nodes[i]? = some m' ∧ m'.leaf = m.leaf ∧ m.size ≤ m'.size + 1 ∧ m'.size ≤ m.size ∧ T'.nodes.length = T.nodes.length ∧ T'.k = T.k ∧ (hasK L k = false → T' = T)
  | 0, T, i, L, ids, ctx, ⟨m, hm, h1, h2, h3, h4, h5⟩, hp, hs, hbig, hz => by
    have hm4 := (hz m hm).1
    have hkl : m.keys.length ≤ 4 := by unfold NodeM.size at hm4; rw [h1, if_pos rfl] at hm4; exact hm4
    have hlt := (List.getElem?_eq_some_iff.1 hm).1
    have hnd : (ids ++ ctx ++ T.free).Nodup := hp.nodup_iff.2 List.nodup_range
    have hni : ∀ x ∈ ctx, i ≠ x := fun x hx e => (List.nodup_append.1 (List.nodup_append.1 hnd).1).2.2 i (by rw [h5]; simp) x hx e
    rw [h4] at hs
    cases hb : bsIs m.keys k
    · obtain ⟨e1, e2⟩ := leaf_absent h3 hs hb
      rw [h4, e1, e2]
      exact ⟨T, ids, m, m, TM.RemR.absent hm h1 (by omega) hb, ⟨m, hm, h1, h2, h3, rfl, h5⟩, hp, fun _ _ => rfl, hm, hm, rfl, by omega, Nat.le_refl _, rfl, rfl, fun _ => rfl⟩
    · obtain ⟨e1, e2⟩ := leaf_del h3 hs hb
      have hbl := bsIs_lt hb
      have d1 := delAt_len m.keys _ hbl
      have d2 := delAt_len m.vals (bsAt m.keys k) (by omega)
      rw [h4, e2]
      refine ⟨{ T with nodes := T.nodes.set i { m with keys := delAt m.keys (bsAt m.keys k), vals := delAt m.vals (bsAt m.keys k) } }, ids, m, { m with keys := delAt m.keys (bsAt m.keys k), vals := delAt m.vals (bsAt m.keys k) }, TM.RemR.found hm h1 (by omega) h3 hb, ⟨{ m with keys := delAt m.keys (bsAt m.keys k), vals := delAt m.vals (bsAt m.keys k) }, ?_, h1, h2, by dsimp only; omega, e1.symm, h5⟩, ?_, ?_, hm, ?_, rfl, ?_, ?_, ?_, rfl, fun h => by cases h⟩
      · dsimp only; rw [List.getElem?_set_self hlt]
      · dsimp only; rw [List.length_set]; exact hp
      · intro x hx; dsimp only; rw [List.getElem?_set_ne (hni x hx)]
      · dsimp only; rw [List.getElem?_set_self hlt]
      · unfold NodeM.size; dsimp only; rw [h1]; simp only [if_true]; omega
      · unfold NodeM.size; dsimp only; rw [h1]; simp only [if_true]; omega
      · dsimp only; rw [List.length_set]
  | d + 1, T, i, L, ids, ctx, ⟨m, hm, h1, h2, cs, h3, h4, h5, h6, h7, h8, h9⟩, hp, hs, hbig, hz => by
    obtain ⟨A, c, Bs, hcs, hAl, hA, hB, hpk⟩ := kid_part k h4 h6 h7
    subst hcs
    obtain ⟨hm4, hm2⟩ := hz m hm
    have hm2 := hm2 h1
    have hkids : m.kids.length ≤ 4 := by unfold NodeM.size at hm4; rw [h1] at hm4; simpa using hm4
    have hkl : m.keys.length ≤ 3 := by rw [h3, List.length_map] at hkids; omega
    have eL : L = A.flatMap Kid.L ++ c.L ++ Bs.flatMap Kid.L := by rw [h8]; simp
    obtain ⟨hcr, mk0, hmk0, hf1, hf2⟩ := h5 c (by simp)
    have hp1 : (c.ids ++ (i :: A.flatMap Kid.ids ++ Bs.flatMap Kid.ids ++ ctx) ++ T.free).Perm (List.range T.nodes.length) := by
      refine List.Perm.trans ?_ hp
      rw [h9, List.perm_iff_count]
      intro a
      simp only [List.flatMap_append, List.flatMap_cons, List.cons_append, List.count_append, List.count_cons, List.append_assoc]
      omega
    rw [eL] at hs
    obtain ⟨T1, ids1, mk, mk1, g1, g2, g3, g4, g5, g6, g7, g8, g9, g10, g11, g12⟩ := remove_law (k := k) d T c.id c.L c.ids (i :: A.flatMap Kid.ids ++ Bs.flatMap Kid.ids ++ ctx) hcr hp1 (sorted_mid hs) hbig (fun m' hm' => by rw [hmk0] at hm'; cases hm'; exact ⟨hf2, fun _ => hf1⟩)
    rw [hmk0] at g5; cases g5
    have hi1 : T1.nodes[i]? = some m := by rw [g4 i (by simp)]; exact hm
    have hkid : m.kids[belowF m.keys k]? = some c.id := by rw [h3, ← hAl, List.getElem?_map, List.getElem?_append_right (Nat.le_refl _), Nat.sub_self]; rfl
    have eI : delL L k = (A ++ ⟨c.id, delL c.L k, ids1⟩ :: Bs).flatMap Kid.L := by rw [eL, delL_mid hA hB]; simp
    have eH : hasK L k = hasK c.L k := by rw [eL, hasK_mid hA hB]
    have hse : Seps m.keys (A ++ ⟨c.id, delL c.L k, ids1⟩ :: Bs) := h6.swap (p := (k, SlotT.none)) (fun x hx => .inr (delL_mem hx)) hpk
    have hoth : ∀ c' ∈ A ++ Bs, Rep T1.nodes d c'.id c'.L c'.ids ∧ Fit T1.nodes c'.id := fun c' hc' => by
      have hsub : ∀ x ∈ c'.ids, T1.nodes[x]? = T.nodes[x]? := fun x hx => g4 x (by
        rcases List.mem_append.1 hc' with h | h
        · have : x ∈ A.flatMap Kid.ids := List.mem_flatMap.2 ⟨c', h, hx⟩
          simp only [List.cons_append, List.mem_cons, List.mem_append]; exact .inr (.inl (.inl this))
        · have : x ∈ Bs.flatMap Kid.ids := List.mem_flatMap.2 ⟨c', h, hx⟩
          simp only [List.cons_append, List.mem_cons, List.mem_append]; exact .inr (.inl (.inr this)))
      obtain ⟨hr', hf'⟩ := h5 c' (by rcases List.mem_append.1 hc' with h | h <;> simp [h])
      exact ⟨hr'.frame hsub, hf'.frame (hsub _ hr'.self)⟩
    have hlen' : (A ++ ⟨c.id, delL c.L k, ids1⟩ :: Bs).length = m.keys.length + 1 := by rw [← h4]; simp
    have hmap' : m.kids = (A ++ ⟨c.id, delL c.L k, ids1⟩ :: Bs).map Kid.id := by rw [h3]; simp
    have hp3 : ((i :: (A ++ ⟨c.id, delL c.L k, ids1⟩ :: Bs).flatMap Kid.ids) ++ ctx ++ T1.free).Perm (List.range T1.nodes.length) := by
      refine List.Perm.trans ?_ g3
      rw [List.perm_iff_count]
      intro a
      simp only [List.flatMap_append, List.flatMap_cons, List.cons_append, List.count_append, List.count_cons, List.append_assoc]
      omega
    by_cases hz1 : 2 ≤ mk1.size
    · refine ⟨T1, i :: (A ++ ⟨c.id, delL c.L k, ids1⟩ :: Bs).flatMap Kid.ids, m, m, ?_, ⟨m, hi1, h1, h2, A ++ ⟨c.id, delL c.L k, ids1⟩ :: Bs, hmap', hlen', ?_, hse, h7, eI, rfl⟩, hp3, fun x hx => g4 x (by simp [hx]), hm, hi1, rfl, by omega, Nat.le_refl _, g10, g11, fun h => g12 (by rw [← eH]; exact h)⟩
      · rw [eH]; exact TM.RemR.inner hm h1 (by omega) hkid g1 g6 hz1
      · intro c' hc'
        rcases List.mem_append.1 hc' with h | h
        · exact hoth c' (List.mem_append.2 (.inl h))
        · rcases List.mem_cons.1 h with rfl | h
          · exact ⟨g2, mk1, g6, hz1, by omega⟩
          · exact hoth c' (List.mem_append.2 (.inr h))
    · have hsL : SortedL ((A ++ ⟨c.id, delL c.L k, ids1⟩ :: Bs).flatMap Kid.L) := by rw [← eI, eL]; exact delL_sorted hs
      obtain ⟨T3, n, q1, q2, q3⟩ := mend_law (c1 := ⟨c.id, delL c.L k, ids1⟩) hi1 h1 h2 hmap' hlen' hoth g2 g6 (by omega) hse h7 hsL hp3 hm4 hm2 (by omega)
      obtain ⟨ids3, r1, r2⟩ := q2.rep
      obtain ⟨m3, r3, r4, r5⟩ := q2.node
      refine ⟨T3, ids3, m, m3, ?_, by rw [eI]; exact r1, r2, fun x hx => (q2.ctx x hx).trans (g4 x (by simp [hx])), hm, r3, by rw [r4, h1], by omega, by omega, by rw [q2.len, g10], by rw [q2.k, g11], fun h => absurd hf1 (by have e := g12 (by rw [← eH]; exact h); rw [e, hmk0] at g6; cases g6; exact hz1)⟩
      rw [eH]; exact TM.RemR.mended hm h1 (by omega) hkid g1 g6 (by omega) (by rw [← hAl]; exact q1)
end Go.Proofs.Ytcbklkcpjldcjaa

/- The tree: Delete, by what the tree stands for. -/
namespace Go.Proofs.Ytcbklkcpjldcjaa
open Go.ChangeShapes Go.WideShapes Go.ChangeAt Go.RowKit
set_option maxRecDepth 100000
set_option linter.unusedSimpArgs false

theorem hasK_gt {L : PL} {k : Val} (h : ∀ y ∈ L, valCmp k y.1 < 0) : hasK L k = false := by
  unfold hasK
  refine List.any_eq_false.2 (fun y hy => ?_)
  have := (gt_iff y.1 k).2 (h y hy)
  simp; omega
theorem delL_len {k : Val} : ∀ {L : PL}, SortedL L → (delL L k).length + (if hasK L k then 1 else 0) = L.length
  | [], _ => by simp [delL, hasK]
  | x :: L, hs => by
    have ih := delL_len (k := k) (List.pairwise_cons.1 hs).2
    by_cases h : valCmp x.1 k = 0
    · have hg : ∀ y ∈ L, valCmp k y.1 < 0 := fun y hy => all_gt hs (by omega) y hy
      have e1 : delL (x :: L) k = delL L k := by unfold delL; rw [List.filter_cons_of_neg (by simp [h])]
      have e2 : hasK (x :: L) k = true := by simp [hasK, h]
      rw [hasK_gt hg] at ih
      rw [e1, e2, List.length_cons]
      simp at ih ⊢; omega
    · have e1 : delL (x :: L) k = x :: delL L k := by unfold delL; rw [List.filter_cons_of_pos (by simp [h])]
      have e2 : hasK (x :: L) k = hasK L k := by simp [hasK, h]
      rw [e1, e2, List.length_cons, List.length_cons]
      omega
theorem delL_absent {L : PL} {k : Val} (h : hasK L k = false) : delL L k = L := delL_id (fun x hx e => by
  unfold hasK at h
  have := List.any_eq_false.1 h x hx
  simp [e] at this)
def remL (L : PL) (k : Val) : PL := if valRight k then delL L k else L
def remB (L : PL) (k : Val) : Bool := valRight k && hasK L k

set_option maxHeartbeats 1000000 in
theorem Delete_ok {B w : World} {D : PH} {t n : Nat} {T : TM} {L : PL} {l : List HP} (k : Val) (hG : Good T L) (hS : Small T L n) (hn : n ≤ 500) (h : TreeA B D w t T l) :
    Calls Try.prog 38 #[.pointer (some ⟨t, 0, none⟩), k.v] w fun e w' => ∃ T', e = .returned (.bool (remB L k)) ∧ TreeA B D w' t T' l ∧ Next T T' L (remL L k) := by
  have hk0 : 0 ≤ T.k.depth := by rcases hG.rep with ⟨_, _, h, _⟩ | ⟨r, d, ids, m, _, h, _⟩ <;> omega
  obtain ⟨b1, b2, b3⟩ := hS.bound hn
  have hlenD := delL_len (k := k) hG.sorted
  have hsD := delL_sorted (k := k) hG.sorted
  have hrD := delL_right (k := k) hG.right
  have same : remL L k = L → Next T T L (remL L k) := fun e => by rw [e]; exact ⟨hG, by omega, by omega, by omega, .inl rfl, Nat.le_refl _⟩
  rcases hG.rep with ⟨hr0, rfl, hd0, hp⟩ | ⟨r, d, ids, m, hroot, hdep, hR, hp, hm, hm1, hm4⟩
  · refine (Delete_none (k := k) (h.nil_of hr0)).mono ?_
    rintro e w' ⟨rfl, hk⟩
    exact ⟨T, by unfold remB hasK; simp, h.kept hk, same (by unfold remL delL; split <;> rfl)⟩
  · cases hr : valRight k
    · refine (Delete_no (k := k) (.inl hr) hroot h).mono ?_
      rintro e w' ⟨rfl, ha⟩
      exact ⟨T, by unfold remB; rw [hr]; rfl, ha, same (by unfold remL; rw [hr]; rfl)⟩
    · have eL : remL L k = delL L k := by unfold remL; rw [hr]; rfl
      have eB : remB L k = hasK L k := by unfold remB; rw [hr]; rfl
      obtain ⟨T1, ids1, m0, m1, g1, g2, g3, g4, g5, g6, g7, g8, g9, g10, g11, g12⟩ := remove_law (k := k) d T r L ids [] hR (by simpa using hp) hG.sorted (by omega) (fun m' hm' => by rw [hm] at hm'; cases hm'; exact ⟨hm4, fun hl => by rw [hl] at hm1; simpa using hm1⟩)
      rw [hm] at g5; cases g5
      simp only [List.append_nil] at g3
      rw [eL, eB]
      cases hh : hasK L k
      · rw [hh] at g1
        obtain rfl := g12 hh
        refine (Delete_no (k := k) (.inr ⟨hr, remove_ok g1⟩) hroot h).mono ?_
        rintro e w' ⟨rfl, ha⟩
        refine ⟨T1, rfl, ha, ?_⟩
        rw [← eL]
        exact same (by rw [eL]; exact delL_absent hh)
      · rw [hh] at g1 hlenD
        simp only [if_true] at hlenD
        have hfit : T.k.fit := by have := hG.many; exact ⟨by omega, by omega, by omega, by omega⟩
        have hfl : T1.free.length ≤ T1.nodes.length := by have := g3.length_eq; simp at this; omega
        have hmany := hG.many
        have hrm : r ∈ ids1 := g2.self
        have hrlt : r < T1.nodes.length := (List.getElem?_eq_some_iff.1 g6).1
        have finish : ((m1.leaf = true ∧ T.k.many ≠ 1) ∨ (m1.leaf = false ∧ m1.kids.length ≠ 1)) → (if m1.leaf then 1 else 2) ≤ m1.size → Calls Try.prog 38 #[.pointer (some ⟨t, 0, none⟩), k.v] w fun e w' => ∃ T', e = .returned (.bool true) ∧ TreeA B D w' t T' l ∧ Next T T' L (delL L k) := fun hz hsz => by
          refine (Delete_some hr (remove_ok g1) hroot g11 hfit g6 (by omega) (by omega) hz h).mono ?_
          rintro e w' ⟨rfl, ha⟩
          refine ⟨_, rfl, ha, ⟨hsD, hrD, ?_, .inr ⟨r, d, ids1, m1, ?_, ?_, g2, g3, g6, hsz, by omega⟩⟩, ?_, ?_, by omega, .inl g10, Nat.le_of_eq g10.symm⟩
          · show T1.k.many - 1 = _; rw [g11]; omega
          · show T1.k.root = _; rw [g11]; exact hroot
          · show T1.k.depth = _; rw [g11]; exact hdep
          · show T1.k.depth ≤ _; rw [g11]; omega
          · show (T1.nodes.length : Int) ≤ _; omega
        cases d with
        | zero =>
          obtain ⟨m', hm', a1, a2, a3, a4, a5⟩ := id g2
          rw [g6] at hm'; cases hm'
          have hsz1 : m1.size = (delL L k).length := by
            have := congrArg List.length a4
            rw [List.length_zip, a3] at this
            unfold NodeM.size
            rw [a1, if_pos rfl]; omega
          by_cases h1 : T.k.many = 1
          · refine (Delete_last hr (remove_ok g1) hroot g11 hfit g6 (by omega) (by omega) a1 h1 h).mono ?_
            rintro e w' ⟨rfl, ha⟩
            have hnil : delL L k = [] := List.length_eq_zero_iff.1 (by omega)
            rw [hnil]
            refine ⟨_, rfl, ha, ⟨by simp, by intro x hx; simp at hx, ?_, .inl ⟨?_, rfl, ?_, ?_⟩⟩, ?_, ?_, by simp, .inl ?_, Nat.le_of_eq ?_⟩
            · show T1.k.many - 1 = _; rw [g11, h1]; rfl
            · show (-1 : Int) < 0; omega
            · show T1.k.depth - 1 = 0; rw [g11, hdep]; rfl
            · show (T1.free ++ [r]).Perm (List.range (T1.nodes.set r (freshM false)).length)
              rw [List.length_set]
              rw [a5] at g3
              exact (List.perm_append_singleton _ _).trans g3
            · show T1.k.depth - 1 ≤ _; rw [g11]; omega
            · show (((T1.nodes.set r (freshM false)).length : Nat) : Int) ≤ _; rw [List.length_set]; omega
            · show (T1.nodes.set r (freshM false)).length = _; rw [List.length_set]; exact g10
            · show _ = (T1.nodes.set r (freshM false)).length; rw [List.length_set]; exact g10.symm
          · exact finish (.inl ⟨a1, h1⟩) (by rw [a1, if_pos rfl]; omega)
        | succ d =>
          obtain ⟨m', hm', a1, a2, cs, a3, a4, a5, a6, a7, a8, a9⟩ := id g2
          rw [g6] at hm'; cases hm'
          have hml : m.leaf = false := by rw [← g7, a1]
          rw [hml] at hm1
          have hsz : m1.size = m1.kids.length := by unfold NodeM.size; rw [a1]; rfl
          by_cases h1 : m1.kids.length = 1
          · have hcs : cs.length = 1 := by rw [a3, List.length_map] at h1; exact h1
            obtain ⟨c0, rfl⟩ := List.length_eq_one_iff.1 hcs
            refine (Delete_one hr (remove_ok g1) hroot g11 hfit g6 (by omega) (by omega) a1 (by rw [a3]; rfl) h).mono ?_
            rintro e w' ⟨rfl, ha⟩
            obtain ⟨hc1, mc, hc2, hc3, hc4⟩ := a5 c0 (by simp)
            have eL2 : delL L k = c0.L := by rw [a8]; simp
            have eI2 : ids1 = r :: c0.ids := by rw [a9]; simp
            have hnd : (ids1 ++ T1.free).Nodup := g3.nodup_iff.2 List.nodup_range
            rw [eI2] at hnd g3
            have hnr : r ∉ c0.ids := (List.nodup_cons.1 (List.nodup_append.1 hnd).1).1
            have hsame : ∀ x ∈ c0.ids, (T1.nodes.set r (freshM false))[x]? = T1.nodes[x]? := fun x hx => by rw [List.getElem?_set_ne (fun e => hnr (by rw [e]; exact hx))]
            refine ⟨_, rfl, ha, ⟨hsD, hrD, ?_, .inr ⟨c0.id, d, c0.ids, mc, rfl, ?_, ?_, ?_, ?_, ?_, hc4⟩⟩, ?_, ?_, by omega, .inl ?_, Nat.le_of_eq ?_⟩
            · show T1.k.many - 1 = _; rw [g11]; omega
            · show T1.k.depth - 1 = _; rw [g11, hdep]; omega
            · show Rep (T1.nodes.set r (freshM false)) d c0.id (delL L k) c0.ids
              rw [eL2]
              exact hc1.frame hsame
            · show (c0.ids ++ (T1.free ++ [r])).Perm (List.range (T1.nodes.set r (freshM false)).length)
              rw [List.length_set]
              refine List.Perm.trans ?_ g3
              rw [List.perm_iff_count]
              intro a
              simp only [List.cons_append, List.count_append, List.count_cons, List.count_nil]
              omega
            · show (T1.nodes.set r (freshM false))[c0.id]? = some mc
              rw [hsame _ hc1.self]; exact hc2
            · split <;> omega
            · show T1.k.depth - 1 ≤ _; rw [g11]; omega
            · show (((T1.nodes.set r (freshM false)).length : Nat) : Int) ≤ _; rw [List.length_set]; omega
            · show (T1.nodes.set r (freshM false)).length = _; rw [List.length_set]; exact g10
            · show _ = (T1.nodes.set r (freshM false)).length; rw [List.length_set]; exact g10.symm
          · exact finish (.inr ⟨a1, h1⟩) (by rw [a1]; simp at hm1 ⊢; omega)
end Go.Proofs.Ytcbklkcpjldcjaa

/- The tree: Get, by what the tree stands for. -/
namespace Go.Proofs.Ytcbklkcpjldcjaa
open Go.ChangeShapes Go.WideShapes Go.ChangeAt Go.RowKit
set_option maxRecDepth 100000
set_option linter.unusedSimpArgs false

/-- what stands at a key, by the key itself -/
def getP (L : PL) (k : Val) : Option (Val × VT) := L.find? (fun p => decide (p.1 = k))
def getB (L : PL) (k : Val) : Bool := (getP L k).isSome
def getV (L : PL) (k : Val) : VT := match getP L k with
  | some p => p.2
  | none => SlotT.none
theorem getP_mem {L : PL} {k : Val} {v : VT} (hs : SortedL L) (h : (k, v) ∈ L) : getP L k = some (k, v) := by
  unfold getP
  cases hf : L.find? (fun p => decide (p.1 = k)) with
  | none => exact absurd (List.find?_eq_none.1 hf _ h) (by simp)
  | some q =>
    have h1 := List.mem_of_find?_eq_some hf
    have h2 : q.1 = k := by have := List.find?_some hf; simpa using this
    obtain ⟨i, hi, hi2⟩ := List.mem_iff_getElem.1 h1
    obtain ⟨j, hj, hj2⟩ := List.mem_iff_getElem.1 h
    rcases Nat.lt_trichotomy i j with hlt | rfl | hlt
    · have := List.pairwise_iff_getElem.1 hs i j hi hj hlt
      rw [hi2, hj2, h2] at this
      rw [cmp_self] at this
      omega
    · rw [← hi2, hj2]
    · have := List.pairwise_iff_getElem.1 hs j i hj hi hlt
      rw [hi2, hj2, h2] at this
      rw [cmp_self] at this
      omega
theorem getP_no {L : PL} {k : Val} (h : hasK L k = false) : getP L k = none := by
  unfold getP
  refine List.find?_eq_none.2 (fun x hx e => ?_)
  have e1 : x.1 = k := by simpa using e
  have := List.any_eq_false.1 h x hx
  rw [e1, cmp_self] at this
  simp at this
theorem getP_wrong {L : PL} {k : Val} (hr : RightL L) (hk : valRight k = false) : getP L k = none := by
  unfold getP
  refine List.find?_eq_none.2 (fun x hx e => ?_)
  have e1 : x.1 = k := by simpa using e
  have := hr x hx
  rw [e1, hk] at this
  cases this
theorem getB_eq {L : PL} {k : Val} (hs : SortedL L) (hr : RightL L) : getB L k = (valRight k && hasK L k) := by
  unfold getB
  cases hk : valRight k
  · rw [getP_wrong hr hk]; rfl
  · cases hh : hasK L k
    · rw [getP_no hh]; rfl
    · obtain ⟨x, hx, hx0⟩ := List.any_eq_true.1 hh
      have e : x.1 = k := cmp_eq (hr x hx) hk (by simpa using hx0)
      rw [getP_mem hs (show (k, x.2) ∈ L by rw [← e]; exact hx)]
      rfl

/-- from a node down to where a key is to be found -/
theorem lead_law {T : TM} {k : Val} : ∀ (d i : Nat) (L : PL) (ids : List Nat), Rep T.nodes d i L ids → (∀ m, T.nodes[i]? = some m → m.size ≤ 4) →
    ∃ (j : Nat) (m : NodeM) (A Bs : PL), T.Leads k d i j ∧ T.nodes[j]? = some m ∧ m.keys.length ≤ 4 ∧ m.vals.length = m.keys.length ∧ L = A ++ m.keys.zip m.vals ++ Bs ∧ (∀ x ∈ A, valCmp x.1 k < 0) ∧ (∀ x ∈ Bs, valCmp k x.1 < 0)
  | 0, i, L, ids, ⟨m, hm, h1, h2, h3, h4, h5⟩, hz => by
    have hm4 := hz m hm
    have hkl : m.keys.length ≤ 4 := by unfold NodeM.size at hm4; rw [h1, if_pos rfl] at hm4; exact hm4
    exact ⟨i, m, [], [], .leaf hm h1, hm, hkl, h3, by simpa using h4, by simp, by simp⟩
  | d + 1, i, L, ids, ⟨m, hm, h1, h2, cs, h3, h4, h5, h6, h7, h8, h9⟩, hz => by
    have hkids : m.kids.length ≤ 4 := by have := hz m hm; unfold NodeM.size at this; rw [h1] at this; simpa using this
    have hkc : m.kids.length = cs.length := by rw [h3, List.length_map]
    obtain ⟨A, c, Bs, rfl, e1, e2, e3, e4⟩ := kid_part k h4 h6 h7
    obtain ⟨hr, m', hm', _, hf⟩ := h5 c (by simp)
    obtain ⟨j, mj, A', B', g1, g2, g3, g4, g5, g6, g7⟩ := lead_law d c.id c.L c.ids hr (fun m'' hm'' => by rw [hm'] at hm''; cases hm''; exact hf)
    refine ⟨j, mj, A.flatMap Kid.L ++ A', B' ++ Bs.flatMap Kid.L, .inner hm h1 (by omega) (by rw [← e1, h3]; simp) g1, g2, g3, g4, ?_, ?_, ?_⟩
    · rw [h8, List.flatMap_append, List.flatMap_cons, g5]; simp
    · intro x hx
      rcases List.mem_append.1 hx with hx | hx
      · exact e2 x hx
      · exact g6 x hx
    · intro x hx
      rcases List.mem_append.1 hx with hx | hx
      · exact g7 x hx
      · exact e3 x hx
theorem Get_ok {B w : World} {D : PH} {t : Nat} {T : TM} {L : PL} {l : List HP} (k : Val) (hG : Good T L) (h : TreeA B D w t T l) :
    Calls Try.prog 48 #[.pointer (some ⟨t, 0, none⟩), k.v] w fun e w' => e = .returned (.tuple #[(getV L k).v, .bool (getB L k)]) ∧ Kept (fun _ => False) w w' := by
  rcases hG.rep with ⟨hr0, rfl, hd0, hp⟩ | ⟨r, d, ids, m, hroot, hdep, hR, hp, hm, hm1, hm4⟩
  · exact Get_none (k := k) (h.nil_of hr0)
  · obtain ⟨j, mj, A, Bs, g1, g2, g3, g4, g5, g6, g7⟩ := lead_law (k := k) d r L ids hR (fun m' hm' => by rw [hm] at hm'; cases hm'; exact hm4)
    have key := Get_at (k := k) hroot g1 g2 (by omega) g4 h
    have hsz : SortedL (mj.keys.zip mj.vals) := sorted_mid (by rw [← g5]; exact hG.sorted)
    have hsk := sortedK_of g4 hsz
    have e1 : mj.has k = getB L k ∧ mj.get k = getV L k := by
      unfold NodeM.has NodeM.get
      cases hk : valRight k
      · unfold getB getV
        rw [getP_wrong hG.right hk]
        exact ⟨rfl, rfl⟩
      · cases hb : bsIs mj.keys k
        · have h2 := (leaf_fresh (v := SlotT.none) g4 hsz hb).2
          have h3 : hasK L k = false := by rw [g5, hasK_mid g6 g7]; exact h2
          unfold getB getV
          rw [getP_no h3]
          exact ⟨rfl, rfl⟩
        · obtain ⟨x, hx, hx0⟩ := (bsIs_spec (ks := mj.keys) k).1 hb
          have hlt := (List.getElem?_eq_some_iff.1 hx).1
          obtain ⟨y, hy⟩ : ∃ y, mj.vals[bsAt mj.keys k]? = some y := ⟨_, List.getElem?_eq_getElem (by omega)⟩
          have hz : (mj.keys.zip mj.vals)[bsAt mj.keys k]? = some (x, y) := List.getElem?_zip_eq_some.2 ⟨hx, hy⟩
          have hmem : (x, y) ∈ L := by rw [g5]; simp [List.mem_of_getElem? hz]
          obtain rfl : x = k := cmp_eq (hG.right _ hmem) hk hx0
          unfold getB getV
          rw [getP_mem hG.sorted hmem, List.getD_eq_getElem?_getD, hy]
          exact ⟨rfl, rfl⟩
    rw [e1.1, e1.2] at key
    exact key
end Go.Proofs.Ytcbklkcpjldcjaa

/- The tree as data: how deep, how many nodes. -/
namespace Go.Proofs.Ytcbklkcpjldcjaa
open Go.ChangeShapes Go.WideShapes Go.ChangeAt Go.RowKit
set_option maxRecDepth 100000
set_option linter.unusedSimpArgs false

theorem sum_kids {d : Nat} : ∀ (cs : List Kid), (∀ c ∈ cs, 2 ^ d ≤ c.L.length ∧ c.ids.length + 1 ≤ c.L.length) → cs.length * 2 ^ d ≤ (cs.flatMap Kid.L).length ∧ (cs.flatMap Kid.ids).length + cs.length ≤ (cs.flatMap Kid.L).length
  | [], _ => by simp
  | c :: cs, h => by
    obtain ⟨h1, h2⟩ := sum_kids cs (fun c' hc' => h c' (List.mem_cons_of_mem _ hc'))
    obtain ⟨h3, h4⟩ := h c (List.mem_cons_self ..)
    rw [List.flatMap_cons, List.flatMap_cons, List.length_cons, List.length_append, List.length_append, Nat.add_mul, Nat.one_mul]
    omega
theorem rep_fit {nodes : List NodeM} : ∀ {d i : Nat} {L : PL} {ids : List Nat}, Rep nodes d i L ids → (∃ m, nodes[i]? = some m ∧ 2 ≤ m.size) → 2 ^ (d + 1) ≤ L.length ∧ ids.length + 1 ≤ L.length
  | 0, i, L, ids, ⟨m, h, h1, h2, h3, h4, h5⟩, ⟨m', h', hs⟩ => by
    rw [h] at h'; cases h'
    unfold NodeM.size at hs
    rw [h1, if_pos rfl] at hs
    have : L.length = m.keys.length := by rw [h4, List.length_zip, h3]; omega
    rw [this, h5]
    simp; omega
  | d + 1, i, L, ids, ⟨m, h, h1, h2, cs, h3, h4, h5, _, _, h8, h9⟩, ⟨m', h', hs⟩ => by
    rw [h] at h'; cases h'
    unfold NodeM.size at hs
    rw [h1, h3, List.length_map] at hs
    obtain ⟨g1, g2⟩ := sum_kids (d := d + 1) cs (fun c hc => by
      obtain ⟨hr, m1, hm1, hz, _⟩ := h5 c hc
      exact rep_fit hr ⟨m1, hm1, hz⟩)
    have hs2 : 2 ≤ cs.length := by simpa using hs
    have h6 : 2 * 2 ^ (d + 1) ≤ cs.length * 2 ^ (d + 1) := Nat.mul_le_mul_right _ hs2
    rw [h8, h9, List.length_cons, Nat.pow_succ 2 (d + 1)]
    omega
theorem rep_root {nodes : List NodeM} {d i : Nat} {L : PL} {ids : List Nat} {m : NodeM} (h : Rep nodes d i L ids) (hm : nodes[i]? = some m) (hz : (if m.leaf then 1 else 2) ≤ m.size) : 2 ^ d ≤ L.length ∧ ids.length ≤ L.length := by
  cases d with
  | zero =>
    obtain ⟨m', h', h1, h2, h3, h4, h5⟩ := h
    rw [hm] at h'; cases h'
    rw [h1, if_pos rfl] at hz
    unfold NodeM.size at hz
    rw [h1, if_pos rfl] at hz
    have : L.length = m.keys.length := by rw [h4, List.length_zip, h3]; omega
    rw [this, h5]
    simp; omega
  | succ d =>
    have hl : m.leaf = false := by
      obtain ⟨m', h', h1, _⟩ := h
      rw [hm] at h'; cases h'
      exact h1
    rw [hl] at hz
    have := rep_fit h ⟨m, hm, by simpa using hz⟩
    have h2 : 2 ^ (d + 1) ≤ 2 ^ (d + 1 + 1) := Nat.pow_le_pow_right (by omega) (by omega)
    omega

/-- how deep, how many nodes -/
structure Shape (T : TM) (L : PL) : Prop where
  free : T.free.length ≤ T.nodes.length
  used : T.nodes.length ≤ T.free.length + L.length
  depth : (L = [] ∧ T.k.depth = 0 ∧ T.nodes.length = T.free.length) ∨ (1 ≤ L.length ∧ T.free.length + 1 ≤ T.nodes.length ∧ ∃ d : Nat, T.k.depth = (d : Int) + 1 ∧ 2 ^ d ≤ L.length)
theorem Good.shape {T : TM} {L : PL} (h : Good T L) : Shape T L := by
  rcases h.rep with ⟨hr0, rfl, hd0, hp⟩ | ⟨r, d, ids, m, hroot, hdep, hR, hp, hm, hm1, hm4⟩
  · have e := hp.length_eq
    simp at e
    exact ⟨by omega, by omega, .inl ⟨rfl, hd0, e.symm⟩⟩
  · have e := hp.length_eq
    have hpos := List.length_pos_of_mem hR.self
    obtain ⟨g1, g2⟩ := rep_root hR hm hm1
    simp at e
    exact ⟨by omega, by omega, .inr ⟨by omega, by omega, d, hdep, g1⟩⟩
theorem pow_small {d n : Nat} (h : 2 ^ d ≤ n) (hn : n ≤ 200) : d ≤ 7 := by
  by_cases hd : d ≤ 7
  · exact hd
  · have : 2 ^ 8 ≤ 2 ^ d := Nat.pow_le_pow_right (by omega) (by omega)
    omega
end Go.Proofs.Ytcbklkcpjldcjaa

/- The tree as data: what is put or deleted at one key changes nothing at another one. -/
namespace Go.Proofs.Ytcbklkcpjldcjaa
open Go.ChangeShapes Go.WideShapes Go.ChangeAt Go.RowKit
set_option maxRecDepth 100000
set_option linter.unusedSimpArgs false

theorem getP_some {L : PL} {k : Val} {p : Val × VT} (h : getP L k = some p) : p ∈ L ∧ p.1 = k := by
  unfold getP at h
  exact ⟨List.mem_of_find?_eq_some h, by have := List.find?_some h; simpa using this⟩
theorem getP_congr {L L' : PL} {k : Val} (hs : SortedL L) (hs' : SortedL L') (h : ∀ v, (k, v) ∈ L ↔ (k, v) ∈ L') : getP L k = getP L' k := by
  cases h1 : getP L k with
  | some p =>
    obtain ⟨hm, rfl⟩ := getP_some h1
    rw [getP_mem hs' ((h p.2).1 hm)]
  | none =>
    cases h2 : getP L' k with
    | none => rfl
    | some p =>
      obtain ⟨hm, rfl⟩ := getP_some h2
      rw [getP_mem hs ((h p.2).2 hm)] at h1
      cases h1
theorem insL_keep {L : PL} {k : Val} {v : VT} {x : Val × VT} (h : x ∈ L) (hk : valCmp x.1 k ≠ 0) : x ∈ insL L k v := by
  unfold insL
  by_cases hlt : valCmp x.1 k < 0
  · exact List.mem_append.2 (.inl (List.mem_filter.2 ⟨h, by simpa using hlt⟩))
  · exact List.mem_append.2 (.inr (List.mem_cons_of_mem _ (List.mem_filter.2 ⟨h, by simp; omega⟩)))
theorem insL_self (L : PL) (k : Val) (v : VT) : (k, v) ∈ insL L k v := by unfold insL; simp
theorem hasK_ins (L : PL) (k : Val) (v : VT) : hasK (insL L k v) k = true := List.any_eq_true.2 ⟨_, insL_self L k v, by simp [cmp_self]⟩
theorem get_put {L : PL} {k k' : Val} {v : VT} (hs : SortedL L) (hr : RightL L) (hne : k' ≠ k) : getP (putL L k' v) k = getP L k := by
  unfold putL
  cases hk : valRight k'
  · rfl
  · refine getP_congr (insL_sorted hs) hs (fun u => ⟨fun h => ?_, fun h => insL_keep h (fun e => hne (cmp_eq (hr _ h) hk e).symm)⟩)
    rcases mem_insL h with h | h
    · exact absurd (congrArg Prod.fst h).symm hne
    · exact h
theorem get_rem {L : PL} {k k' : Val} (hs : SortedL L) (hr : RightL L) (hne : k' ≠ k) : getP (remL L k') k = getP L k := by
  unfold remL
  cases hk : valRight k'
  · rfl
  · refine getP_congr (delL_sorted hs) hs (fun u => ⟨fun h => delL_mem h, fun h => List.mem_filter.2 ⟨h, ?_⟩⟩)
    simp only [Bool.not_eq_true', decide_eq_false_iff_not]
    exact fun e => hne (cmp_eq (hr _ h) hk e).symm
theorem rem_put (L : PL) (k : Val) (v : VT) : remB (putL L k v) k = valRight k := by
  unfold remB putL
  cases hk : valRight k
  · rfl
  · show (true && hasK (insL L k v) k) = true
    rw [hasK_ins]; rfl
theorem len_put {L : PL} {k : Val} {v : VT} (hs : SortedL L) : (putL L k v).length = L.length + (if putB L k then 1 else 0) := by
  unfold putL putB
  cases hk : valRight k
  · rfl
  · show (insL L k v).length = _
    rw [insL_len hs]
    cases hasK L k <;> rfl
theorem put_right {L : PL} {k : Val} (h : valRight k = false) : putB L k = false := by unfold putB; rw [h]; rfl
end Go.Proofs.Ytcbklkcpjldcjaa

/- The tree as data: in whatever order keys are put. -/
namespace Go.Proofs.Ytcbklkcpjldcjaa
open Go.ChangeShapes Go.WideShapes Go.ChangeAt Go.RowKit
set_option maxRecDepth 100000
set_option linter.unusedSimpArgs false

theorem mem_put {L : PL} {k : Val} {v : VT} (hr : RightL L) (p : Val × VT) : p ∈ putL L k v ↔ (valRight k = true ∧ p = (k, v)) ∨ (p ∈ L ∧ p.1 ≠ k) := by
  unfold putL
  cases hk : valRight k
  · simp only [Bool.false_eq_true, if_false, false_and, false_or]
    exact ⟨fun h => ⟨h, fun e => by have := hr p h; rw [e, hk] at this; cases this⟩, fun h => h.1⟩
  · simp only [if_true, true_and]
    constructor
    · intro h
      by_cases e : p.1 = k
      · left
        unfold insL at h
        rcases List.mem_append.1 h with hin | hin
        · have := (List.mem_filter.1 hin).2
          rw [e, cmp_self] at this
          simp at this
        · rcases List.mem_cons.1 hin with hin | hin
          · exact hin
          · have := (List.mem_filter.1 hin).2
            rw [e, cmp_self] at this
            simp at this
      · rcases mem_insL h with h | h
        · rw [h] at e; exact absurd rfl e
        · exact .inr ⟨h, e⟩
    · rintro (rfl | ⟨h, hne⟩)
      · exact insL_self L k v
      · exact insL_keep h (fun e => hne (cmp_eq (hr p h) hk e))
theorem mem_rem {L : PL} {k : Val} (hr : RightL L) (p : Val × VT) : p ∈ remL L k ↔ p ∈ L ∧ p.1 ≠ k := by
  unfold remL
  cases hk : valRight k
  · simp only [Bool.false_eq_true, if_false]
    exact ⟨fun h => ⟨h, fun e => by have := hr p h; rw [e, hk] at this; cases this⟩, fun h => h.1⟩
  · simp only [if_true]
    unfold delL
    rw [List.mem_filter]
    constructor
    · rintro ⟨h, h2⟩
      refine ⟨h, fun e => ?_⟩
      rw [e, cmp_self] at h2
      simp at h2
    · rintro ⟨h, h2⟩
      refine ⟨h, ?_⟩
      simp only [Bool.not_eq_true', decide_eq_false_iff_not]
      exact fun e => h2 (cmp_eq (hr p h) hk e)
theorem sorted_ext : ∀ {L L' : PL}, SortedL L → SortedL L' → (∀ p, p ∈ L ↔ p ∈ L') → L = L'
  | [], [], _, _, _ => rfl
  | [], y :: L', _, _, h => absurd ((h y).2 (List.mem_cons_self ..)) (by simp)
  | x :: L, [], _, _, h => absurd ((h x).1 (List.mem_cons_self ..)) (by simp)
  | x :: L, y :: L', hs, hs', h => by
    obtain ⟨h1, h2⟩ := List.pairwise_cons.1 hs
    obtain ⟨h3, h4⟩ := List.pairwise_cons.1 hs'
    have exy : x = y := by
      rcases List.mem_cons.1 ((h x).1 (List.mem_cons_self ..)) with e | hx
      · exact e
      · rcases List.mem_cons.1 ((h y).2 (List.mem_cons_self ..)) with e | hy
        · exact e.symm
        · have a := h3 x hx
          have b := h1 y hy
          have c := lt_trans' a b
          rw [cmp_self] at c
          omega
    subst exy
    congr 1
    refine sorted_ext h2 h4 (fun p => ⟨fun hp => ?_, fun hp => ?_⟩)
    · rcases List.mem_cons.1 ((h p).1 (List.mem_cons_of_mem _ hp)) with e | hp'
      · have := h1 p hp
        rw [e, cmp_self] at this
        omega
      · exact hp'
    · rcases List.mem_cons.1 ((h p).2 (List.mem_cons_of_mem _ hp)) with e | hp'
      · have := h3 p hp
        rw [e, cmp_self] at this
        omega
      · exact hp'

end Go.Proofs.Ytcbklkcpjldcjaa
