/- The tree: contract of put. -/
import Derived.Test.YtjijemeabfiipaaTree5
namespace Go.Proofs.Ytjijemeabfiipaa
open Go.ChangeShapes Go.WideShapes Go.ChangeAt Go.RowKit
set_option maxRecDepth 100000
set_option linter.unusedSimpArgs false

theorem bsIs_lt {keys : List Val} {k : Val} (h : bsIs keys k = true) : bsAt keys k < keys.length := by
  unfold bsIs at h
  simp only [Bool.and_eq_true, decide_eq_true_eq] at h
  exact h.1
theorem bsAt_le (keys : List Val) (k : Val) : bsAt keys k ≤ keys.length := (bsF_le (keyAt keys k) 0 keys.length (Nat.zero_le _)).2

set_option maxHeartbeats 2000000 in
theorem put_found {B w : World} {D : PH} {t : Nat} {T : TM} {l : List HP} {i : Nat} {m : NodeM} {k : Val} {v : VT} (hi : T.nodes[i]? = some m) (hl : m.leaf = true) (hkb : m.keys.length ≤ 1000) (hv : m.vals.length = m.keys.length) (his : bsIs m.keys k = true) (h : TreeA B D w t T l) :
    Calls Try.prog 29 #[.pointer (some ⟨t, 0, none⟩), .int .i64 i, k.v, .int .i64 v] w fun e w' => e = .returned (.bool false) ∧ TreeA B D w' t { T with nodes := T.nodes.set i { m with vals := m.vals.set (bsAt m.keys k) v } } l := by
  obtain ⟨nv, fv, ns, hns, hs⟩ := h
  obtain ⟨⟨kv, vv, dv⟩, hp⟩ := get_node hns hi
  have hlt := (List.getElem?_eq_some_iff.1 hp).1
  obtain ⟨g, c, rfl, _, hcm⟩ := hs.nv_some (by omega)
  unfold maxLen at hcm
  have hs1 := hs.alloc #[.bool k.t, .int .i64 k.n, .string k.s] tV
  have hib : (i : Int) < (ns.length : Int) := by omega
  have HS1 := Lib.hid hs1
  have HP := Lib.hid hp
  have HNS := Lib.hid hns
  have hbl := bsIs_lt his
  have HL := Lib.hid hl
  have HV := Lib.hid hv
  have HIS := Lib.hid his
  have hkb2 : m.keys.length ≤ 1000000 := by omega
  clear hs hs1 hp hi hns hl hv his
  dsimp only [Val.v]
  go_enter Try.func29, Try.ntmps29
  go_upto_region 1 with (fail)
  obtain ⟨W, hW, hs2⟩ := HS1.out.hide
  rw [← hW]
  clear HS1 hW
  generalize w.heap.size = bk at hs2 ⊢
  obtain ⟨t0, t1, t2, t3, t4, tf⟩ := hs2.tcells
  obtain ⟨n0, n1, n2, n3, nf⟩ := hs2.node_cells HP.out
  obtain ⟨x0, x1, x2, xf⟩ := cells3 (Sat.blk hs2 4 rfl)
  have hrd := hs2.drew.keys_rd HP.out
  obtain ⟨ko, kc, hkv⟩ := (hs2.focus HP.out).own_shape
  obtain ⟨vg, vc, hvv, hvc1, hvc2⟩ := some_shape (Sat.own (hs2.focus HP.out) 1 rfl) (by show 0 < m.vals.length; rw [HV.out]; omega)
  dsimp only at hkv hvv n0 n1 n2 n3 hrd
  rw [HV.out] at hvv
  subst hkv hvv
  rw [HL.out] at n0
  have HRD := Lib.hid hrd
  have HS2 := Lib.hid hs2
  clear hrd hs2
  go_upto_region 3 with (fail)
  refine wp_region_canon [(0, false, 5), (1, false, 5), (2, false, 5), (3, false, 5), (4, false, 5), (5, true, 0), (6, false, 999), (7, false, 999), (8, false, 999), (9, false, 999), (10, false, 999)] (by kernel_rfl) (by kernel_rfl) ?_
  iterate 5 (refine wpCan_read rfl rfl (fun K hK => ?_); go_simp; refine hK _ ?_; clear hK K)
  refine wpCan_eff rfl ?_
  refine wpList_do rfl (fun K hK => ?_)
  go_simp
  refine (search_ok k HRD.out hkb2).mono ?_
  rintro e1 w1 ⟨rfl, hk1⟩
  have hs3 := (HS2.out.drew).kept hk1
  clear hk1 HS2 x0 x1 x2 xf t0 t1 t2 t3 t4 tf n0 n1 n2 n3 nf HRD
  obtain ⟨n0, n1, n2, n3, nf⟩ := hs3.node_cells HP.out
  dsimp only at n0 n1 n2 n3
  have hs4 := hs3.val_set HP.out rfl (bsAt m.keys k) v (by show _ < m.vals.length; rw [HV.out]; exact hbl)
  have ho := Sat.own (hs3.focus HP.out) 1 rfl
  dsimp only at ho
  rw [HV.out] at ho
  obtain ⟨z, _, hr⟩ := ho.row
  obtain ⟨x, hx⟩ : ∃ x, m.vals[bsAt m.keys k]? = some x := ⟨m.vals[bsAt m.keys k]'(by rw [HV.out]; exact hbl), List.getElem?_eq_getElem _⟩
  have hvx := ho.cells _ _ (flat_get vlen m.vals _ x hx 0 _ rfl)
  rw [Nat.add_zero, Nat.mul_one] at hvx
  have hvf := hr.frozen
  have HS4 := Lib.hid hs4
  clear hs3 hs4 hr ho hx
  refine hK _ _ ?_
  clear hK K
  refine wpList_nil ?_
  refine And.intro ?_ ?_
  · go_simp
  iterate 5 (refine wpCan_read rfl rfl (fun K hK => ?_); go_simp; refine hK _ ?_; clear hK K)
  refine wpCan_nil ?_
  rw [HIS.out]
  have hab : (bsAt m.keys k : Int) < (m.keys.length : Int) := by omega
  go_wp2_with (fail)
  go_ret
  exact ⟨rfl, _, _, _, by rw [List.map_set, HNS.out], HS4.out.drop⟩

set_option maxHeartbeats 3000000 in
theorem put_fresh {B w : World} {D : PH} {t : Nat} {T : TM} {l : List HP} {i : Nat} {m : NodeM} {k : Val} {v : VT} (hi : T.nodes[i]? = some m) (hl : m.leaf = true) (hkb : m.keys.length ≤ 1000) (hv : m.vals.length = m.keys.length) (his : bsIs m.keys k = false) (h : TreeA B D w t T l) :
    Calls Try.prog 29 #[.pointer (some ⟨t, 0, none⟩), .int .i64 i, k.v, .int .i64 v] w fun e w' => e = .returned (.bool true) ∧ TreeA B D w' t { T with nodes := T.nodes.set i { m with keys := insAt m.keys (bsAt m.keys k) k, vals := insAt m.vals (bsAt m.keys k) v } } l := by
  obtain ⟨nv, fv, ns, hns, hs⟩ := h
  obtain ⟨⟨kv, vv, dv⟩, hp⟩ := get_node hns hi
  have hlt := (List.getElem?_eq_some_iff.1 hp).1
  obtain ⟨g, c, rfl, _, hcm⟩ := hs.nv_some (by omega)
  unfold maxLen at hcm
  have hs1 := hs.alloc #[.bool k.t, .int .i64 k.n, .string k.s] tV
  have hib : (i : Int) < (ns.length : Int) := by omega
  have HS1 := Lib.hid hs1
  have HP := Lib.hid hp
  have HNS := Lib.hid hns
  have hbl := bsAt_le m.keys k
  have HL := Lib.hid hl
  have HV := Lib.hid hv
  have HIS := Lib.hid his
  have hkb2 : m.keys.length ≤ 1000000 := by omega
  have hvb : m.vals.length ≤ 1000 := by omega
  have hbv : bsAt m.keys k ≤ m.vals.length := by omega
  clear hs hs1 hp hi hns hl hv his
  dsimp only [Val.v]
  go_enter Try.func29, Try.ntmps29
  go_upto_region 1 with (fail)
  obtain ⟨W, hW, hs2⟩ := HS1.out.hide
  rw [← hW]
  clear HS1 hW
  generalize w.heap.size = bk at hs2 ⊢
  obtain ⟨t0, t1, t2, t3, t4, tf⟩ := hs2.tcells
  obtain ⟨n0, n1, n2, n3, nf⟩ := hs2.node_cells HP.out
  obtain ⟨x0, x1, x2, xf⟩ := cells3 (Sat.blk hs2 4 rfl)
  have hrd := hs2.drew.keys_rd HP.out
  obtain ⟨ko, kc, hkv⟩ := (hs2.focus HP.out).own_shape
  dsimp only at hkv n0 n1 n2 n3 hrd
  subst hkv
  rw [HL.out] at n0
  have HRD := Lib.hid hrd
  have HS2 := Lib.hid hs2
  clear hrd hs2
  go_upto_region 3 with (fail)
  refine wp_region_canon [(0, false, 5), (1, false, 5), (2, false, 5), (3, false, 5), (4, false, 5), (5, true, 0), (6, false, 999), (7, false, 999), (8, false, 999), (9, false, 999), (10, false, 999)] (by kernel_rfl) (by kernel_rfl) ?_
  iterate 5 (refine wpCan_read rfl rfl (fun K hK => ?_); go_simp; refine hK _ ?_; clear hK K)
  refine wpCan_eff rfl ?_
  refine wpList_do rfl (fun K hK => ?_)
  go_simp
  refine (search_ok k HRD.out hkb2).mono ?_
  rintro e1 w1 ⟨rfl, hk1⟩
  have hs3 := (HS2.out.drew).kept hk1
  clear hk1 HS2 x0 x1 x2 xf t0 t1 t2 t3 t4 tf n0 n1 n2 n3 nf HRD
  obtain ⟨n0, n1, n2, n3, nf⟩ := hs3.node_cells HP.out
  obtain ⟨x0, x1, x2, xf⟩ := cells3 (Sat.blk hs3 4 rfl)
  dsimp only at n0 n1 n2 n3
  have HS3 := Lib.hid hs3
  clear hs3
  refine hK _ _ ?_
  clear hK K
  refine wpList_nil ?_
  refine And.intro ?_ ?_
  · go_simp
  iterate 5 (refine wpCan_read rfl rfl (fun K hK => ?_); go_simp; refine hK _ ?_; clear hK K)
  refine wpCan_nil ?_
  rw [HIS.out]
  go_upto_region 7 with (fail)
  refine wp_region_canon [(0, false, 11), (1, false, 8), (2, false, 8), (3, false, 8), (4, false, 8), (5, false, 8), (6, false, 7), (7, true, 0), (8, true, 0), (9, false, 11), (10, false, 11), (11, true, 0)] (by kernel_rfl) (by kernel_rfl) ?_
  iterate 7 (refine wpCan_read rfl rfl (fun K hK => ?_); go_simp; refine hK _ ?_; clear hK K)
  refine wpCan_eff rfl ?_
  refine wpList_plain rfl (fun K hK => ?_)
  go_simp
  refine hK _ _ ?_
  clear hK K
  refine wpList_nil ?_
  have hs4 := (HS3.out.alloc #[.bool k.t, .int .i64 k.n, .string k.s] tV).drew
  obtain ⟨W4, hW4, hs4⟩ := hs4.hide
  rw [← hW4]
  generalize w1.heap.size = bx at hs4 ⊢
  clear hW4 HS3 n0 n1 n2 n3 nf x0 x1 x2 xf
  obtain ⟨n0, n1, n2, n3, nf⟩ := hs4.node_cells HP.out
  dsimp only at n0 n1 n2 n3
  have HS4 := Lib.hid (hs4.for_keys HP.out)
  clear hs4
  refine And.intro ?_ ?_
  · go_simp
  refine wpCan_eff rfl ?_
  refine wpList_do rfl (fun K hK => ?_)
  go_simp
  refine (insert_Val (i := bsAt m.keys k) hbl (by rfl) (Val.one k) bx (by omega) HS4.out).mono ?_
  rintro e5 w5 ⟨kv5, rfl, hs5⟩
  have hs5' := hs5.swap.drop
  dsimp only at hs5'
  rw [flat_insAt Val.len, ← insAt_len m.keys (bsAt m.keys k) k] at hs5'
  obtain ⟨kk, hkk⟩ : ∃ kk, insAt m.keys (bsAt m.keys k) k = kk := ⟨_, rfl⟩
  rw [hkk] at hs5'
  obtain ⟨ko5, kc5, rfl⟩ := hs5'.own_shape
  clear n0 n1 n2 n3 nf HS4 hs5
  obtain ⟨n0, n1, n2, n3, nf⟩ := row_cells (hs5'.own 4 rfl) HP.out
  have HKK := Lib.hid hkk
  have HS5 := Lib.hid hs5'
  dsimp only at n0 n1 n2 n3
  clear hs5' hkk
  refine hK _ _ ?_
  clear hK K
  refine wpList_nil ?_
  refine And.intro ?_ ?_
  · go_simp
  iterate 2 (refine wpCan_read rfl rfl (fun K hK => ?_); go_simp; refine hK _ ?_; clear hK K)
  refine wpCan_eff rfl ?_
  refine wpList_plain rfl (fun K hK => ?_)
  go_simp
  refine hK _ _ ?_
  clear hK K
  refine wpList_nil ?_
  refine And.intro ?_ ?_
  · go_simp
  refine wpCan_nil ?_
  go_upto_region 8 with (fail)
  have hq6 := TreeS.set_keys HP.out HS5.out
  obtain ⟨W6, hW6, hs6⟩ := hq6.hide
  rw [← hW6]
  clear hq6
  have hp6 := set_get_self (x := ((⟨.slice ko5 kk.length kc5, vv, dv⟩, { m with keys := kk }) : NP)) HP.out
  have hmap6 : (ns.set i ((⟨.slice ko5 kk.length kc5, vv, dv⟩, { m with keys := kk }) : NP)).map Prod.snd = T.nodes.set i { m with keys := kk } := by rw [List.map_set, HNS.out]
  dsimp only at hs6
  generalize ns.set i ((⟨.slice ko5 kk.length kc5, vv, dv⟩, { m with keys := kk }) : NP) = ns6 at hs6 hp6 hmap6
  clear hW6 HS5 HP HNS n0 n1 n2 n3 nf
  obtain ⟨n0, n1, n2, n3, nf⟩ := hs6.node_cells hp6
  dsimp only at n0 n1 n2 n3
  obtain ⟨vo, vc, hvv⟩ := (hs6.focus hp6).drop.own_shape
  dsimp only at hvv
  subst hvv
  have hs7 := hs6.alloc #[.int .i64 v] tI
  have HS7 := Lib.hid (hs7.for_vals hp6)
  have HP6 := Lib.hid hp6
  have HMAP6 := Lib.hid hmap6
  have HNW := Lib.hid (show ∀ u ∈ [Value.int .i64 v], u.oneCell' = true by intro u hu; simp at hu; subst hu; rfl)
  clear hs6 hs7 hp6 hmap6
  go_wp2_with ((go_at_call 43; refine (insert_Int (i := bsAt m.keys k) (xc := [.int .i64 v]) hbv (by rfl) HNW.out _ (by show (m.vals.length + 1) * 8 ≤ _; omega) HS7.out).mono ?_; rintro e8 w8 ⟨vv8, rfl, hs8⟩; have hs8' := hs8.swap.drop; dsimp only at hs8'; obtain ⟨vo8, vc8, rfl⟩ := hs8'.own_shape; clear n0 n1 n2 n3 nf; obtain ⟨n0, n1, n2, n3, nf⟩ := row_cells (hs8'.own 4 rfl) HP6.out; dsimp only at n0 n1 n2 n3; have HS8 := Lib.hid hs8'; clear hs8 hs8'))
  go_ret
  have e := flat_insAt vlen m.vals (bsAt m.keys k) v
  have h9 := HS8.out
  obtain ⟨vs, hvs⟩ : ∃ vs, insAt m.vals (bsAt m.keys k) v = vs := ⟨_, rfl⟩
  have h9' : Sat B D w8 (valsP (.slice vo8 (m.vals.length + 1) vc8) vs :: keysP (.slice ko5 kk.length kc5) kk :: kidsP dv m.kids :: blk t (treeCells (.slice (some ⟨g, 0, none⟩) ns.length c) fv T.k) tT :: ownS tN 4 (.slice (some ⟨g, 0, none⟩) ns.length c) ns6.length (ns6.flatMap nodeCells) :: kidsP fv T.free :: group ((ns6.map nodeP).eraseIdx i) :: blk bk #[.bool k.t, .int .i64 k.n, .string k.s] tV :: l) := by
    unfold valsP
    rw [← hvs, insAt_len, ← e]
    exact h9
  have hs10 := TreeS.set_vals HP6.out h9'
  refine ⟨rfl, _, _, _, ?_, hs10.drop⟩
  rw [List.map_set, HMAP6.out, List.set_set, hvs, ← HKK.out]
end Go.Proofs.Ytjijemeabfiipaa
