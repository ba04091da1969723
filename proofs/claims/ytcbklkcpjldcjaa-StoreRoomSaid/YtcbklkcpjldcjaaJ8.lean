/- Joined texts: The tree: contract of put. The tree: contract of put. The tree: contract of put. -/
import Derived.Test.YtcbklkcpjldcjaaJ7
/- The tree: contract of put. -/
namespace Go.Proofs.Ytcbklkcpjldcjaa
open Go.ChangeShapes Go.WideShapes Go.ChangeAt Go.RowKit
set_option maxRecDepth 100000
set_option linter.unusedSimpArgs false

/-- may node kid, at place c below i, be split? -/
def TM.maySplit (T : TM) (i c kid : Nat) (mi mk : NodeM) : Prop :=
  i ≠ kid ∧ (∀ x, T.free.getLast? = some x → x < T.nodes.length ∧ x ≠ i ∧ x ≠ kid) ∧ T.nodes.length ≤ 1000000 ∧ T.free.length ≤ 1000000 ∧ mk.keys.length ≤ 1000 ∧ c ≤ mi.keys.length ∧ mi.kids.length = mi.keys.length + 1 ∧ mi.keys.length ≤ 1000 ∧
    3 ≤ mk.keys.length ∧ (mk.leaf = true → mk.vals.length = mk.keys.length) ∧ (mk.leaf = false → mk.kids.length = mk.keys.length + 1)
/-- T' is what is left of T when the node at place c below i is split -/
def TM.Split (T : TM) (i c : Nat) (T' : TM) : Prop :=
  ∃ mi kid mk sep, T.nodes[i]? = some mi ∧ mi.kids[c]? = some kid ∧ T.nodes[kid]? = some mk ∧ mk.keys[mk.keys.length / 2]? = some sep ∧ T.maySplit i c kid mi mk ∧ T' = (T.slot mk.leaf).2.spl (T.slot mk.leaf).1 i kid c mi mk sep

theorem split_ok {B w : World} {D : PH} {t : Nat} {T T' : TM} {l : List HP} {i c : Nat} (hs : T.Split i c T') (h : TreeA B D w t T l) :
    Calls Try.prog 58 #[.pointer (some ⟨t, 0, none⟩), .int .i64 i, .int .i64 c] w fun e w' => e = .returned (.tuple #[]) ∧ TreeA B D w' t T' l := by
  obtain ⟨mi, kid, mk, sep, h1, h2, h3, h4, ⟨g1, g2, g3, g4, g5, g6, g7, g8, g9, g10, g11⟩, rfl⟩ := hs
  cases hl : mk.leaf
  · have := split_node (nw := (T.slot mk.leaf).1) (T1 := (T.slot mk.leaf).2) rfl h4 h1 h2 h3 g1 hl g2 g3 g4 g9 g5 (g11 hl) g6 g7 g8 h
    rw [hl] at this
    exact this
  · have := split_leaf (nw := (T.slot mk.leaf).1) (T1 := (T.slot mk.leaf).2) rfl h4 h1 h2 h3 g1 hl g2 g3 g4 (by omega) g5 (g10 hl) g6 g7 g8 h
    rw [hl] at this
    exact this

/-- what stands at one place of a node is another now -/
theorem TreeS.val_set {B w : World} {D : PH} {t N g c kg nk ck : Nat} {fv : Value} {ns : List NP} {fr : List Nat} {k : Num} {l : List HP} (h : TreeS B D w t (.slice (some ⟨g, 0, none⟩) N c) fv ns fr k l) {i : Nat} {p : NP} (hi : ns[i]? = some p) (hk : p.1.vv = .slice (some ⟨kg, 0, none⟩) nk ck) (j : Nat) (x : VT) (hj : j < p.2.vals.length) :
    TreeS B D (((w.setCell ⟨kg, j * 3, none⟩ (.bool x.kept)).setCell ⟨kg, j * 3 + 1, none⟩ (.int .i64 x.num)).setCell ⟨kg, j * 3 + 2, none⟩ (.slice x.ro x.rn x.rc)) t (.slice (some ⟨g, 0, none⟩) N c) fv (ns.set i (p.1, { p.2 with vals := p.2.vals.set j x })) fr k l := by
  obtain rfl := row_len (Sat.own h 1 rfl)
  have h1 := (h.focus hi).swap
  rw [hk] at h1
  obtain ⟨_, _, hv, hc, _⟩ := (h1.own 0 rfl).rd.2.2
  cases hv
  have h2 := (((h1.own_set (j * 3) (.bool x.kept) rfl).own_set (j * 3 + 1) (.int .i64 x.num) rfl).own_set (j * 3 + 2) (.slice x.ro x.rn x.rc) rfl).swap
  have e : ∀ (ks : List VT) (j : Nat), j < ks.length → ((((ks.flatMap vcells).set (j * 3) (.bool x.kept)).set (j * 3 + 1) (.int .i64 x.num)).set (j * 3 + 2) (.slice x.ro x.rn x.rc)) = (ks.set j x).flatMap vcells := by
    intro ks
    induction ks with
    | nil => intro j hj; simp at hj
    | cons y ks ih => intro j hj; cases j with
      | zero => simp [vcells]
      | succ j =>
        have := ih j (by simpa using hj)
        simp only [List.flatMap_cons, List.set_cons_succ]
        rw [← this]
        have e0 : ∀ (q : Nat) (u : Value) (r : List Value), (vcells y ++ r).set (q + 3) u = vcells y ++ r.set q u := by
          intro q u r; simp [vcells]
        rw [show (j + 1) * 3 = j * 3 + 3 by omega, show j * 3 + 3 + 1 = (j * 3 + 1) + 3 by omega, show j * 3 + 3 + 2 = (j * 3 + 2) + 3 by omega, e0, e0, e0]
  rw [e _ _ hj] at h2
  have e2 : (p.2.vals.set j x).length = p.2.vals.length := List.length_set
  have h3 : (ns.set i (p.1, { p.2 with vals := p.2.vals.set j x })).flatMap nodeCells = ns.flatMap nodeCells := by
    have hlt := (List.getElem?_eq_some_iff.1 hi).1
    have := node_set 0 p (p.1, { p.2 with vals := p.2.vals.set j x }) (.bool p.2.leaf) (by omega) rfl ns i hi
    rw [← this, Nat.add_zero]
    refine List.ext_getElem? (fun q => ?_)
    by_cases hq : q = i * 4
    · subst hq
      rw [List.getElem?_set_self (by rw [flat_len nodeLen]; omega)]
      have := flat_get nodeLen ns i p hi 0 _ rfl
      rw [Nat.add_zero] at this
      exact this.symm
    · rw [List.getElem?_set_ne (fun h => hq h.symm)]
  refine TreeS.unfocus (p' := (p.1, { p.2 with vals := p.2.vals.set j x })) hi ?_
  rw [h3, hk]
  unfold valsP
  dsimp only
  rw [e2]
  exact h2
end Go.Proofs.Ytcbklkcpjldcjaa

/- The tree: contract of put. -/
namespace Go.Proofs.Ytcbklkcpjldcjaa
open Go.ChangeShapes Go.WideShapes Go.ChangeAt Go.RowKit
set_option maxRecDepth 100000
set_option linter.unusedSimpArgs false

theorem bsIs_lt {keys : List Val} {k : Val} (h : bsIs keys k = true) : bsAt keys k < keys.length := by
  unfold bsIs at h
  simp only [Bool.and_eq_true, decide_eq_true_eq] at h
  exact h.1
theorem bsAt_le (keys : List Val) (k : Val) : bsAt keys k ≤ keys.length := (bsF_le (keyAt keys k) 0 keys.length (Nat.zero_le _)).2

set_option maxHeartbeats 2000000 in
theorem put_found {B w : World} {D : PH} {t : Nat} {T : TM} {l : List HP} {i : Nat} {m : NodeM} {k : Val} {v : VT} (hi : T.nodes[i]? = some m) (hl : m.leaf = true) (hkb : m.keys.length ≤ 1000) (hv : m.vals.length = m.keys.length) (his : bsIs m.keys k = true) (h : TreeA B D w t T l) :
    Calls Try.prog 56 #[.pointer (some ⟨t, 0, none⟩), .int .i64 i, k.v, v.v] w fun e w' => e = .returned (.bool false) ∧ TreeA B D w' t { T with nodes := T.nodes.set i { m with vals := m.vals.set (bsAt m.keys k) v } } l := by
  obtain ⟨nv, fv, ns, hns, hs⟩ := h
  obtain ⟨⟨kv, vv, dv⟩, hp⟩ := get_node hns hi
  have hlt := (List.getElem?_eq_some_iff.1 hp).1
  obtain ⟨g, c, rfl, _, hcm⟩ := hs.nv_some (by omega)
  unfold maxLen at hcm
  have hs1 := (hs.alloc #[.bool k.t, .int .i64 k.n, .string k.s] tV).alloc #[.bool v.kept, .int .i64 v.num, .slice v.ro v.rn v.rc] tW
  have hib : (i : Int) < (ns.length : Int) := by omega
  have HS1 := Lib.hid hs1
  have HP := Lib.hid hp
  have HNS := Lib.hid hns
  have hbl := bsIs_lt his
  have HL := Lib.hid hl
  have HV := Lib.hid hv
  have HIS := Lib.hid his
  have hkb2 : m.keys.length ≤ 1000000 := by omega
  clear hs hs1 hp hi hns hl hv his
  dsimp only [Val.v, SlotT.v]
  go_enter Try.func56, Try.ntmps56
  go_upto_region 1 with (fail)
  obtain ⟨W, hW, hs2⟩ := HS1.out.hide
  rw [← hW]
  clear HS1 hW
  simp only [World.alloc, Array.size_push] at hs2 ⊢
  generalize hbk : w.heap.size = bk at hs2 ⊢
  generalize hbv_ : bk + 1 = bv at hs2 ⊢
  clear hbk hbv_
  obtain ⟨t0, t1, t2, t3, t4, tf⟩ := hs2.tcells
  obtain ⟨n0, n1, n2, n3, nf⟩ := hs2.node_cells HP.out
  obtain ⟨x0, x1, x2, xf⟩ := cells3 (Sat.blk hs2 5 rfl)
  have hrd := hs2.drew.keys_rd HP.out
  obtain ⟨ko, kc, hkv⟩ := (hs2.focus HP.out).own_shape
  obtain ⟨vg, vc, hvv, hvc1, hvc2⟩ := some_shape (Sat.own (hs2.focus HP.out) 1 rfl) (by show 0 < m.vals.length; rw [HV.out]; omega)
  dsimp only at hkv hvv n0 n1 n2 n3 hrd
  rw [HV.out] at hvv
  subst hkv hvv
  rw [HL.out] at n0
  have HRD := Lib.hid hrd
  have HS2 := Lib.hid hs2
  clear hrd hs2
  go_upto_region 3 with (fail)
  refine wp_region_canon [(0, false, 5), (1, false, 5), (2, false, 5), (3, false, 5), (4, false, 5), (5, true, 0), (6, false, 999), (7, false, 999), (8, false, 999), (9, false, 999), (10, false, 999)] (by kernel_rfl) (by kernel_rfl) ?_
  iterate 5 (refine wpCan_read rfl rfl (fun K hK => ?_); go_simp; refine hK _ ?_; clear hK K)
  refine wpCan_eff rfl ?_
  refine wpList_do rfl (fun K hK => ?_)
  go_simp
  refine (search_ok k HRD.out hkb2).mono ?_
  rintro e1 w1 ⟨rfl, hk1⟩
  have hs3 := (HS2.out.drew).kept hk1
  clear hk1 HS2 x0 x1 x2 xf t0 t1 t2 t3 t4 tf n0 n1 n2 n3 nf HRD
  obtain ⟨n0, n1, n2, n3, nf⟩ := hs3.node_cells HP.out
  dsimp only at n0 n1 n2 n3
  obtain ⟨v0, v1, v2, vf⟩ := cells3 (Sat.blk hs3 4 rfl)
  have hs4 := hs3.val_set HP.out rfl (bsAt m.keys k) v (by show _ < m.vals.length; rw [HV.out]; exact hbl)
  have ho := Sat.own (hs3.focus HP.out) 1 rfl
  dsimp only at ho
  rw [HV.out] at ho
  obtain ⟨z, _, hr⟩ := ho.row
  obtain ⟨x, hx⟩ : ∃ x, m.vals[bsAt m.keys k]? = some x := ⟨m.vals[bsAt m.keys k]'(by rw [HV.out]; exact hbl), List.getElem?_eq_getElem _⟩
  have hvx0 := ho.cells _ _ (flat_get vlen m.vals _ x hx 0 _ rfl)
  have hvx1 := ho.cells _ _ (flat_get vlen m.vals _ x hx 1 _ rfl)
  have hvx2 := ho.cells _ _ (flat_get vlen m.vals _ x hx 2 _ rfl)
  rw [Nat.add_zero] at hvx0
  have hvf := hr.frozen
  have HS4 := Lib.hid hs4.drew
  clear hs3 hs4 hr ho hx
  refine hK _ _ ?_
  clear hK K
  refine wpList_nil ?_
  refine And.intro ?_ ?_
  · go_simp
  iterate 5 (refine wpCan_read rfl rfl (fun K hK => ?_); go_simp; refine hK _ ?_; clear hK K)
  refine wpCan_nil ?_
  rw [HIS.out]
  have hab : (bsAt m.keys k : Int) < (m.keys.length : Int) := by omega
  go_upto_region 5 with (fail)
  refine wp_region_canon [(0, false, 7), (1, false, 7), (2, false, 7), (3, false, 7), (4, false, 7), (5, false, 7), (6, false, 7), (7, true, 0)] (by kernel_rfl) (by kernel_rfl) ?_
  iterate 7 (refine wpCan_read rfl rfl (fun K hK => ?_); go_simp; refine hK _ ?_; clear hK K)
  refine wpCan_eff rfl ?_
  refine wpList_plain rfl (fun K hK => ?_)
  go_simp
  refine hK _ _ ?_
  clear hK K
  refine wpList_nil ?_
  refine And.intro ?_ ?_
  · go_simp
  refine wpCan_nil ?_
  go_wp2_with (fail)
  go_ret
  exact ⟨rfl, _, _, _, by rw [List.map_set, HNS.out], HS4.out.drop.drop⟩

set_option maxHeartbeats 3000000 in
theorem put_fresh {B w : World} {D : PH} {t : Nat} {T : TM} {l : List HP} {i : Nat} {m : NodeM} {k : Val} {v : VT} (hi : T.nodes[i]? = some m) (hl : m.leaf = true) (hkb : m.keys.length ≤ 1000) (hv : m.vals.length = m.keys.length) (his : bsIs m.keys k = false) (h : TreeA B D w t T l) :
    Calls Try.prog 56 #[.pointer (some ⟨t, 0, none⟩), .int .i64 i, k.v, v.v] w fun e w' => e = .returned (.bool true) ∧ TreeA B D w' t { T with nodes := T.nodes.set i { m with keys := insAt m.keys (bsAt m.keys k) k, vals := insAt m.vals (bsAt m.keys k) v } } l := by
  obtain ⟨nv, fv, ns, hns, hs⟩ := h
  obtain ⟨⟨kv, vv, dv⟩, hp⟩ := get_node hns hi
  have hlt := (List.getElem?_eq_some_iff.1 hp).1
  obtain ⟨g, c, rfl, _, hcm⟩ := hs.nv_some (by omega)
  unfold maxLen at hcm
  have hs1 := (hs.alloc #[.bool k.t, .int .i64 k.n, .string k.s] tV).alloc #[.bool v.kept, .int .i64 v.num, .slice v.ro v.rn v.rc] tW
  have hib : (i : Int) < (ns.length : Int) := by omega
  have HS1 := Lib.hid hs1
  have HP := Lib.hid hp
  have HNS := Lib.hid hns
  have hbl := bsAt_le m.keys k
  have HL := Lib.hid hl
  have HV := Lib.hid hv
  have HIS := Lib.hid his
  have hkb2 : m.keys.length ≤ 1000000 := by omega
  have hvb : m.vals.length ≤ 1000 := by omega
  have hbv : bsAt m.keys k ≤ m.vals.length := by omega
  clear hs hs1 hp hi hns hl hv his
  dsimp only [Val.v, SlotT.v]
  go_enter Try.func56, Try.ntmps56
  go_upto_region 1 with (fail)
  obtain ⟨W, hW, hs2⟩ := HS1.out.hide
  rw [← hW]
  clear HS1 hW
  simp only [World.alloc, Array.size_push] at hs2 ⊢
  generalize hbk : w.heap.size = bk at hs2 ⊢
  generalize hbv_ : bk + 1 = bv at hs2 ⊢
  clear hbk hbv_
  obtain ⟨t0, t1, t2, t3, t4, tf⟩ := hs2.tcells
  obtain ⟨n0, n1, n2, n3, nf⟩ := hs2.node_cells HP.out
  obtain ⟨x0, x1, x2, xf⟩ := cells3 (Sat.blk hs2 5 rfl)
  have hrd := hs2.drew.keys_rd HP.out
  obtain ⟨ko, kc, hkv⟩ := (hs2.focus HP.out).own_shape
  dsimp only at hkv n0 n1 n2 n3 hrd
  subst hkv
  rw [HL.out] at n0
  have HRD := Lib.hid hrd
  have HS2 := Lib.hid hs2
  clear hrd hs2
  go_upto_region 3 with (fail)
  refine wp_region_canon [(0, false, 5), (1, false, 5), (2, false, 5), (3, false, 5), (4, false, 5), (5, true, 0), (6, false, 999), (7, false, 999), (8, false, 999), (9, false, 999), (10, false, 999)] (by kernel_rfl) (by kernel_rfl) ?_
  iterate 5 (refine wpCan_read rfl rfl (fun K hK => ?_); go_simp; refine hK _ ?_; clear hK K)
  refine wpCan_eff rfl ?_
  refine wpList_do rfl (fun K hK => ?_)
  go_simp
  refine (search_ok k HRD.out hkb2).mono ?_
  rintro e1 w1 ⟨rfl, hk1⟩
  have hs3 := (HS2.out.drew).kept hk1
  clear hk1 HS2 x0 x1 x2 xf t0 t1 t2 t3 t4 tf n0 n1 n2 n3 nf HRD
  obtain ⟨n0, n1, n2, n3, nf⟩ := hs3.node_cells HP.out
  obtain ⟨x0, x1, x2, xf⟩ := cells3 (Sat.blk hs3 5 rfl)
  dsimp only at n0 n1 n2 n3
  have HS3 := Lib.hid hs3
  clear hs3
  refine hK _ _ ?_
  clear hK K
  refine wpList_nil ?_
  refine And.intro ?_ ?_
  · go_simp
  iterate 5 (refine wpCan_read rfl rfl (fun K hK => ?_); go_simp; refine hK _ ?_; clear hK K)
  refine wpCan_nil ?_
  rw [HIS.out]
  go_upto_region 7 with (fail)
  refine wp_region_canon [(0, false, 11), (1, false, 8), (2, false, 8), (3, false, 8), (4, false, 8), (5, false, 8), (6, false, 7), (7, true, 0), (8, true, 0), (9, false, 11), (10, false, 11), (11, true, 0)] (by kernel_rfl) (by kernel_rfl) ?_
  iterate 7 (refine wpCan_read rfl rfl (fun K hK => ?_); go_simp; refine hK _ ?_; clear hK K)
  refine wpCan_eff rfl ?_
  refine wpList_plain rfl (fun K hK => ?_)
  go_simp
  refine hK _ _ ?_
  clear hK K
  refine wpList_nil ?_
  have hs4 := (HS3.out.alloc #[.bool k.t, .int .i64 k.n, .string k.s] tV).drew
  obtain ⟨W4, hW4, hs4⟩ := hs4.hide
  rw [← hW4]
  generalize w1.heap.size = bx at hs4 ⊢
  clear hW4 HS3 n0 n1 n2 n3 nf x0 x1 x2 xf
  obtain ⟨n0, n1, n2, n3, nf⟩ := hs4.node_cells HP.out
  dsimp only at n0 n1 n2 n3
  have HS4 := Lib.hid (hs4.for_keys HP.out)
  clear hs4
  refine And.intro ?_ ?_
  · go_simp
  refine wpCan_eff rfl ?_
  refine wpList_do rfl (fun K hK => ?_)
  go_simp
  refine (insert_Val (i := bsAt m.keys k) hbl (by rfl) (Val.one k) bx (by omega) HS4.out).mono ?_
  rintro e5 w5 ⟨kv5, rfl, hs5⟩
  have hs5' := hs5.swap.drop
  dsimp only at hs5'
  rw [flat_insAt Val.len, ← insAt_len m.keys (bsAt m.keys k) k] at hs5'
  obtain ⟨kk, hkk⟩ : ∃ kk, insAt m.keys (bsAt m.keys k) k = kk := ⟨_, rfl⟩
  rw [hkk] at hs5'
  obtain ⟨ko5, kc5, rfl⟩ := hs5'.own_shape
  clear n0 n1 n2 n3 nf HS4 hs5
  obtain ⟨n0, n1, n2, n3, nf⟩ := row_cells (hs5'.own 4 rfl) HP.out
  have HKK := Lib.hid hkk
  have HS5 := Lib.hid hs5'
  dsimp only at n0 n1 n2 n3
  clear hs5' hkk
  refine hK _ _ ?_
  clear hK K
  refine wpList_nil ?_
  refine And.intro ?_ ?_
  · go_simp
  iterate 2 (refine wpCan_read rfl rfl (fun K hK => ?_); go_simp; refine hK _ ?_; clear hK K)
  refine wpCan_eff rfl ?_
  refine wpList_plain rfl (fun K hK => ?_)
  go_simp
  refine hK _ _ ?_
  clear hK K
  refine wpList_nil ?_
  refine And.intro ?_ ?_
  · go_simp
  refine wpCan_nil ?_
  go_upto_region 8 with (fail)
  have hq6 := TreeS.set_keys HP.out HS5.out
  obtain ⟨W6, hW6, hs6⟩ := hq6.hide
  rw [← hW6]
  clear hq6
  have hp6 := set_get_self (x := ((⟨.slice ko5 kk.length kc5, vv, dv⟩, { m with keys := kk }) : NP)) HP.out
  have hmap6 : (ns.set i ((⟨.slice ko5 kk.length kc5, vv, dv⟩, { m with keys := kk }) : NP)).map Prod.snd = T.nodes.set i { m with keys := kk } := by rw [List.map_set, HNS.out]
  dsimp only at hs6
  generalize ns.set i ((⟨.slice ko5 kk.length kc5, vv, dv⟩, { m with keys := kk }) : NP) = ns6 at hs6 hp6 hmap6
  clear hW6 HS5 HP HNS n0 n1 n2 n3 nf
  obtain ⟨n0, n1, n2, n3, nf⟩ := hs6.node_cells hp6
  dsimp only at n0 n1 n2 n3
  obtain ⟨vo, vc, hvv⟩ := (hs6.focus hp6).drop.own_shape
  dsimp only at hvv
  subst hvv
  obtain ⟨v0, v1, v2, vf⟩ := cells3 (Sat.blk hs6 4 rfl)
  have HS6 := Lib.hid hs6
  have HP6 := Lib.hid hp6
  have HMAP6 := Lib.hid hmap6
  clear hs6 hp6 hmap6
  refine wp_region_canon [(0, false, 11), (1, false, 8), (2, false, 8), (3, false, 8), (4, false, 8), (5, false, 8), (6, false, 7), (7, true, 0), (8, true, 0), (9, false, 11), (10, false, 11), (11, true, 0)] (by kernel_rfl) (by kernel_rfl) ?_
  iterate 7 (refine wpCan_read rfl rfl (fun K hK => ?_); go_simp; refine hK _ ?_; clear hK K)
  refine wpCan_eff rfl ?_
  refine wpList_plain rfl (fun K hK => ?_)
  go_simp
  refine hK _ _ ?_
  clear hK K
  refine wpList_nil ?_
  have hs7 := (HS6.out.alloc #[.bool v.kept, .int .i64 v.num, .slice v.ro v.rn v.rc] tW).drew
  obtain ⟨W7, hW7, hs7⟩ := hs7.hide
  rw [← hW7]
  generalize W6.heap.size = bz at hs7 ⊢
  clear hW7 HS6 n0 n1 n2 n3 nf v0 v1 v2 vf
  obtain ⟨n0, n1, n2, n3, nf⟩ := hs7.node_cells HP6.out
  dsimp only at n0 n1 n2 n3
  have HS7 := Lib.hid (hs7.for_vals HP6.out)
  clear hs7
  refine And.intro ?_ ?_
  · go_simp
  refine wpCan_eff rfl ?_
  refine wpList_do rfl (fun K hK => ?_)
  go_simp
  refine (insert_Slot (i := bsAt m.keys k) (xc := vcells v) hbv (by rfl) (vone v) bz (by show (m.vals.length + 1) * 40 ≤ _; omega) HS7.out).mono ?_
  rintro e8 w8 ⟨vv8, rfl, hs8⟩
  have hs8' := hs8.swap.drop
  dsimp only at hs8'
  obtain ⟨vo8, vc8, rfl⟩ := hs8'.own_shape
  clear n0 n1 n2 n3 nf HS7 hs8
  obtain ⟨n0, n1, n2, n3, nf⟩ := row_cells (hs8'.own 4 rfl) HP6.out
  dsimp only at n0 n1 n2 n3
  have HS8 := Lib.hid hs8'
  clear hs8'
  refine hK _ _ ?_
  clear hK K
  refine wpList_nil ?_
  refine And.intro ?_ ?_
  · go_simp
  iterate 2 (refine wpCan_read rfl rfl (fun K hK => ?_); go_simp; refine hK _ ?_; clear hK K)
  refine wpCan_eff rfl ?_
  refine wpList_plain rfl (fun K hK => ?_)
  go_simp
  refine hK _ _ ?_
  clear hK K
  refine wpList_nil ?_
  refine And.intro ?_ ?_
  · go_simp
  refine wpCan_nil ?_
  go_wp2_with (fail)
  go_ret
  have e := flat_insAt vlen m.vals (bsAt m.keys k) v
  have h9 := HS8.out
  obtain ⟨vs, hvs⟩ : ∃ vs, insAt m.vals (bsAt m.keys k) v = vs := ⟨_, rfl⟩
  have h9' : Sat B D w8 (valsP (.slice vo8 (m.vals.length + 1) vc8) vs :: keysP (.slice ko5 kk.length kc5) kk :: kidsP dv m.kids :: blk t (treeCells (.slice (some ⟨g, 0, none⟩) ns.length c) fv T.k) tT :: ownS tN 4 (.slice (some ⟨g, 0, none⟩) ns.length c) ns6.length (ns6.flatMap nodeCells) :: kidsP fv T.free :: group ((ns6.map nodeP).eraseIdx i) :: blk bv #[.bool v.kept, .int .i64 v.num, .slice v.ro v.rn v.rc] tW :: blk bk #[.bool k.t, .int .i64 k.n, .string k.s] tV :: l) := by
    unfold valsP
    rw [← hvs, insAt_len, ← e]
    exact h9
  have hs10 := TreeS.set_vals HP6.out h9'
  refine ⟨rfl, _, _, _, ?_, hs10.drop.drop⟩
  rw [List.map_set, HMAP6.out, List.set_set, hvs, ← HKK.out]
end Go.Proofs.Ytcbklkcpjldcjaa

/- The tree: contract of put. -/
namespace Go.Proofs.Ytcbklkcpjldcjaa
open Go.ChangeShapes Go.WideShapes Go.ChangeAt Go.RowKit
set_option maxRecDepth 100000
set_option linter.unusedSimpArgs false

/-- what put does below a node -/
inductive TM.PutR (k : Val) (v : VT) : TM → Nat → TM → Bool → Prop
  | found {T : TM} {i : Nat} {m : NodeM} (hi : T.nodes[i]? = some m) (hl : m.leaf = true) (hkb : m.keys.length ≤ 1000) (hv : m.vals.length = m.keys.length) (his : bsIs m.keys k = true) : TM.PutR k v T i { T with nodes := T.nodes.set i { m with vals := m.vals.set (bsAt m.keys k) v } } false
  | fresh {T : TM} {i : Nat} {m : NodeM} (hi : T.nodes[i]? = some m) (hl : m.leaf = true) (hkb : m.keys.length ≤ 1000) (hv : m.vals.length = m.keys.length) (his : bsIs m.keys k = false) : TM.PutR k v T i { T with nodes := T.nodes.set i { m with keys := insAt m.keys (bsAt m.keys k) k, vals := insAt m.vals (bsAt m.keys k) v } } true
  | inner {T T1 : TM} {i kid : Nat} {m mk : NodeM} {fr : Bool} (hi : T.nodes[i]? = some m) (hl : m.leaf = false) (hkb : m.keys.length ≤ 1000) (hc : m.kids[belowF m.keys k]? = some kid) (hp : TM.PutR k v T kid T1 fr) (hk : T1.nodes[kid]? = some mk) (hz : mk.size ≤ 4) : TM.PutR k v T i T1 fr
  | grown {T T1 T2 : TM} {i kid : Nat} {m mk : NodeM} {fr : Bool} (hi : T.nodes[i]? = some m) (hl : m.leaf = false) (hkb : m.keys.length ≤ 1000) (hc : m.kids[belowF m.keys k]? = some kid) (hp : TM.PutR k v T kid T1 fr) (hk : T1.nodes[kid]? = some mk) (hz : 4 < mk.size) (hs : T1.Split i (belowF m.keys k) T2) : TM.PutR k v T i T2 fr

set_option maxHeartbeats 2000000 in
theorem put_inner {B w : World} {D : PH} {t : Nat} {T T1 T2 : TM} {l : List HP} {i kid : Nat} {m mk : NodeM} {k : Val} {v : VT} {fr : Bool} (hi : T.nodes[i]? = some m) (hl : m.leaf = false) (hkb : m.keys.length ≤ 1000) (hc : m.kids[belowF m.keys k]? = some kid)
    (ih : ∀ (w : World) (l : List HP), TreeA B D w t T l → Calls Try.prog 56 #[.pointer (some ⟨t, 0, none⟩), .int .i64 kid, k.v, v.v] w fun e w' => e = .returned (.bool fr) ∧ TreeA B D w' t T1 l)
    (hk : T1.nodes[kid]? = some mk) (hz : (mk.size ≤ 4 ∧ T2 = T1) ∨ (4 < mk.size ∧ T1.Split i (belowF m.keys k) T2)) (h : TreeA B D w t T l) :
    Calls Try.prog 56 #[.pointer (some ⟨t, 0, none⟩), .int .i64 i, k.v, v.v] w fun e w' => e = .returned (.bool fr) ∧ TreeA B D w' t T2 l := by
  obtain ⟨nv, fv, ns, hns, hs⟩ := h
  obtain ⟨⟨kv, vv, dv⟩, hp⟩ := get_node hns hi
  have hlt := (List.getElem?_eq_some_iff.1 hp).1
  obtain ⟨g, c, rfl, _, hcm⟩ := hs.nv_some (by omega)
  unfold maxLen at hcm
  have hs1 := (hs.alloc #[.bool k.t, .int .i64 k.n, .string k.s] tV).alloc #[.bool v.kept, .int .i64 v.num, .slice v.ro v.rn v.rc] tW
  have hib : (i : Int) < (ns.length : Int) := by omega
  have HS1 := Lib.hid hs1
  have HP := Lib.hid hp
  have HNS := Lib.hid hns
  have HL := Lib.hid hl
  have hcl := (List.getElem?_eq_some_iff.1 hc).1
  have HC := Lib.hid hc
  have HI := Lib.hid hi
  have IH := Lib.hid ih
  have HK := Lib.hid hk
  have hkb2 : m.keys.length ≤ 1000000 := by omega
  clear hs hs1 hp hi hns hl hc ih hk
  dsimp only [Val.v, SlotT.v]
  go_enter Try.func56, Try.ntmps56
  go_upto_region 1 with (fail)
  obtain ⟨W, hW, hs2⟩ := HS1.out.hide
  rw [← hW]
  clear HS1 hW
  simp only [World.alloc, Array.size_push] at hs2 ⊢
  generalize hbk : w.heap.size = bk at hs2 ⊢
  generalize hbv_ : bk + 1 = bv at hs2 ⊢
  clear hbk hbv_
  obtain ⟨t0, t1, t2, t3, t4, tf⟩ := hs2.tcells
  obtain ⟨n0, n1, n2, n3, nf⟩ := hs2.node_cells HP.out
  obtain ⟨x0, x1, x2, xf⟩ := cells3 (Sat.blk hs2 5 rfl)
  obtain ⟨v0, v1, v2, vf⟩ := cells3 (Sat.blk hs2 4 rfl)
  dsimp only at n0 n1 n2 n3
  rw [HL.out] at n0
  obtain ⟨C, hC⟩ : ∃ C, belowF m.keys k = C := ⟨_, rfl⟩
  have HB := Lib.hid (below_ok (i := i) k HI.out hkb2 ⟨_, _, _, HNS.out, hs2⟩)
  rw [hC] at HB HC hcl hz
  have HS2 := Lib.hid hs2
  have HZ := Lib.hid hz
  clear hs2 hC hz
  go_upto_region 11 with ((go_at_call 69; refine HB.out.mono ?_; rintro e1 w1 ⟨rfl, hk1⟩; have hs3 := HS2.out.kept hk1; have HS3 := Lib.hid hs3; clear hk1 HS2 x0 x1 x2 xf v0 v1 v2 vf t0 t1 t2 t3 t4 tf n0 n1 n2 n3 nf HB; clear hs3))
  have hs3 := HS3.out
  obtain ⟨t0, t1, t2, t3, t4, tf⟩ := hs3.tcells
  obtain ⟨n0, n1, n2, n3, nf⟩ := hs3.node_cells HP.out
  obtain ⟨x0, x1, x2, xf⟩ := cells3 (Sat.blk hs3 5 rfl)
  obtain ⟨v0, v1, v2, vf⟩ := cells3 (Sat.blk hs3 4 rfl)
  obtain ⟨dg, dc, hdv, hdc1, hdc2⟩ := some_shape (Sat.own (hs3.focus HP.out) 2 rfl) (by show 0 < m.kids.length; omega)
  dsimp only at n0 n1 n2 n3 hdv
  subst hdv
  have hcell := ids_cell (hs3.kids_rd HP.out) HC.out
  have hcb : (C : Int) < (m.kids.length : Int) := by omega
  have HP3 := Lib.hid (IH.out w1 _ ⟨_, _, _, HNS.out, hs3⟩)
  clear hs3 HS3
  go_upto_region 13 with ((go_at_call 56; refine HP3.out.mono ?_; rintro e2 w2 ⟨rfl, hs4⟩; have HA4 := Lib.hid hs4; clear hs4 HP3 x0 x1 x2 xf v0 v1 v2 vf t0 t1 t2 t3 t4 tf n0 n1 n2 n3 nf hcell))
  have HSZ := Lib.hid (size_ok HK.out HA4.out)
  rcases HZ.out with ⟨hz, rfl⟩ | ⟨hz, hsp⟩
  · have hz' : ¬ ((mk.size : Int) > 4) := by omega
    go_wp2_with ((go_at_call 57; refine HSZ.out.mono ?_; rintro e3 w3 ⟨rfl, rfl⟩))
    go_ret
    obtain ⟨nv4, fv4, ns4, hns4, hs4⟩ := HA4.out
    exact ⟨rfl, _, _, _, hns4, hs4.drop.drop⟩
  · have hz' : ((mk.size : Int) > 4) := by omega
    have HSP := Lib.hid (split_ok hsp HA4.out)
    clear hsp
    go_wp2_with (first | (go_at_call 57; refine HSZ.out.mono ?_; rintro e3 w3 ⟨rfl, rfl⟩) | (go_at_call 58; refine HSP.out.mono ?_; rintro e5 w5 ⟨rfl, hs5⟩; have HA5 := Lib.hid hs5; clear hs5))
    go_ret
    obtain ⟨nv5, fv5, ns5, hns5, hs5⟩ := HA5.out
    exact ⟨rfl, _, _, _, hns5, hs5.drop.drop⟩

theorem put_ok {B : World} {D : PH} {t : Nat} {T T' : TM} {i : Nat} {k : Val} {v : VT} {fr : Bool} (hp : T.PutR k v i T' fr) : ∀ (w : World) (l : List HP), TreeA B D w t T l →
    Calls Try.prog 56 #[.pointer (some ⟨t, 0, none⟩), .int .i64 i, k.v, v.v] w fun e w' => e = .returned (.bool fr) ∧ TreeA B D w' t T' l := by
  induction hp with
  | found hi hl hkb hv his => intro w l h; exact put_found hi hl hkb hv his h
  | fresh hi hl hkb hv his => intro w l h; exact put_fresh hi hl hkb hv his h
  | inner hi hl hkb hc hp hk hz ih => intro w l h; exact put_inner hi hl hkb hc ih hk (.inl ⟨hz, rfl⟩) h
  | grown hi hl hkb hc hp hk hz hs ih => intro w l h; exact put_inner hi hl hkb hc ih hk (.inr ⟨hz, hs⟩) h
end Go.Proofs.Ytcbklkcpjldcjaa
