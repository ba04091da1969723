/- The tree: contracts of give, of remove at a leaf. -/
import Derived.Test.YtjijemeabfiipaaTreeOpen
namespace Go.Proofs.Ytjijemeabfiipaa
open Go.ChangeShapes Go.WideShapes Go.ChangeAt Go.RowKit
set_option maxRecDepth 100000
set_option linter.unusedSimpArgs false

theorem infoI : (Try.prog.info? tI).map (fun i => (i.zero, i.size, i.bytes)) = some (some (.int .i64 0), 1, 8) := by kernel_rfl

set_option maxHeartbeats 2000000 in
theorem give_ok {B w : World} {D : PH} {t : Nat} {T : TM} {l : List HP} {i : Nat} (hi : i < T.nodes.length) (hbig : T.nodes.length ≤ 1000000) (hfb : T.free.length ≤ 1000000) (h : TreeA B D w t T l) :
    Calls Try.prog 38 #[.pointer (some ⟨t, 0, none⟩), .int .i64 i] w fun e w' => e = .returned (.tuple #[]) ∧ TreeA B D w' t (T.give i) l := by
  obtain ⟨nodes, free, k⟩ := T
  obtain ⟨nv, fv, ns, hns, hs⟩ := h
  dsimp only at *
  subst hns
  rw [List.length_map] at hbig hi
  obtain ⟨p, hp⟩ : ∃ p, ns[i]? = some p := ⟨ns[i], List.getElem?_eq_getElem hi⟩
  obtain ⟨g, c, rfl, _, hcm⟩ := hs.nv_some (by omega)
  unfold maxLen at hcm
  have hib : (i : Int) < (ns.length : Int) := by omega
  obtain ⟨t0, t1, t2, t3, t4, tf⟩ := hs.tcells
  obtain ⟨n0, n1, n2, n3, nf⟩ := hs.node_cells hp
  have HRS := Lib.hid (hs.reset hp false)
  obtain ⟨i0, hinf, hz0, hz1, hz2⟩ := info_parts infoI
  have HI := Lib.hid (And.intro hinf (And.intro hz0 (And.intro hz1 hz2)))
  have HO := Lib.hid (show ∀ u ∈ [Value.int .i64 (i : Int)], u.oneCell' = true by intro u hu; simp at hu; subst hu; rfl)
  clear hs hp hinf hz0 hz1 hz2
  go_enter Try.func38, Try.ntmps38
  go_upto_region 1 with (fail)
  obtain ⟨W, hW, hs2⟩ := HRS.out.hide
  rw [← hW]
  clear hW HRS t0 t1 t2 t3 t4 tf n0 n1 n2 n3 nf
  obtain ⟨t0, t1, t2, t3, t4, tf⟩ := hs2.tcells
  have hal := hs2.alloc #[.int .i64 (i : Int)] tI
  have hrb := rd_block (size := 1) (n := 1) (Sat.blk hal 4 rfl) rfl (by unfold maxLen; omega)
  have hal2 := Sat.front hal 2 rfl
  simp only [List.eraseIdx_cons_succ, List.eraseIdx_cons_zero] at hal2
  have HAL := Lib.hid hal2
  have HRB := Lib.hid hrb
  clear hs2 hal hrb hal2
  go_wp2_with (at_builtin; refine wpList_append_Sat _ rfl _ _ 58 rfl tI i0 _ 1 8 Try.underlying58 HI.out.1 HI.out.2.1 HI.out.2.2.1 HI.out.2.2.2 rfl _ _ _ rfl HAL.out _ 1 _ rfl HRB.out HO.out (by unfold maxLen; omega) (by omega) ?_; intro v2 w2 h2 h2o; clear t0 t1 t2 t3 t4 tf; obtain ⟨t0, t1, t2, t3, t4, tf⟩ := cells5 (h2.blk 1 rfl); have H2 := Lib.hid h2; clear h2)
  go_end0
  have h3 := H2.out.swap.set 1 v2
  refine ⟨rfl, .slice (some ⟨g, 0, none⟩) ns.length c, v2, ns.set i (freshP false), by rw [List.map_set]; rfl, ?_⟩
  show Sat B D _ (blk t (treeCells _ v2 k) tT :: ownS tN 4 _ (ns.set i (freshP false)).length _ :: kidsP v2 (free ++ [i]) :: group _ :: l)
  unfold kidsP
  rw [List.length_append, List.flatMap_append, List.flatMap_singleton]
  have h4 := h3.perm (((List.Perm.swap _ _ _).cons _).trans (((List.perm_middle (l₁ := [ownS tN 4 (.slice (some ⟨g, 0, none⟩) ns.length c) (ns.set i (freshP false)).length ((ns.set i (freshP false)).flatMap nodeCells), ownS tI 1 v2 (free.length + 1) (free.flatMap ncells ++ [Value.int .i64 (i : Int)]), group ((ns.set i (freshP false)).map nodeP)]) (l₂ := l)).cons _)))
  exact (h4.perm (List.Perm.swap _ _ _)).drop

def delAt {α : Type} (l : List α) (i : Nat) : List α := l.take i ++ l.drop (i + 1)
theorem delAt_len {α : Type} (l : List α) (i : Nat) (h : i < l.length) : (delAt l i).length + 1 = l.length := by unfold delAt; simp; omega
theorem flat_delAt {α : Type} {f : α → List Value} {size : Nat} (hf : ∀ x, (f x).length = size) (l : List α) (i : Nat) : (l.flatMap f).take (i * size) ++ (l.flatMap f).drop ((i + 1) * size) = (delAt l i).flatMap f := by
  rw [flat_take hf, flat_drop hf]
  simp [delAt]

set_option maxHeartbeats 2000000 in
theorem remove_absent {B w : World} {D : PH} {t : Nat} {T : TM} {l : List HP} {i : Nat} {m : NodeM} {k : Val} (hi : T.nodes[i]? = some m) (hl : m.leaf = true) (hkb : m.keys.length ≤ 1000) (his : bsIs m.keys k = false) (h : TreeA B D w t T l) :
    Calls Try.prog 37 #[.pointer (some ⟨t, 0, none⟩), .int .i64 i, k.v] w fun e w' => e = .returned (.bool false) ∧ TreeA B D w' t T l := by
  obtain ⟨nv, fv, ns, hns, hs⟩ := h
  obtain ⟨⟨kv, vv, dv⟩, hp⟩ := get_node hns hi
  have hlt := (List.getElem?_eq_some_iff.1 hp).1
  obtain ⟨g, c, rfl, _, hcm⟩ := hs.nv_some (by omega)
  unfold maxLen at hcm
  have hs1 := hs.alloc #[.bool k.t, .int .i64 k.n, .string k.s] tV
  have hib : (i : Int) < (ns.length : Int) := by omega
  have HS1 := Lib.hid hs1
  have HP := Lib.hid hp
  have HNS := Lib.hid hns
  have HL := Lib.hid hl
  have HIS := Lib.hid his
  have hkb2 : m.keys.length ≤ 1000000 := by omega
  clear hs hs1 hp hi hns hl his
  dsimp only [Val.v]
  go_enter Try.func37, Try.ntmps37
  go_upto_region 1 with (fail)
  obtain ⟨W, hW, hs2⟩ := HS1.out.hide
  rw [← hW]
  clear HS1 hW
  generalize w.heap.size = bk at hs2 ⊢
  obtain ⟨t0, t1, t2, t3, t4, tf⟩ := hs2.tcells
  obtain ⟨n0, n1, n2, n3, nf⟩ := hs2.node_cells HP.out
  obtain ⟨x0, x1, x2, xf⟩ := cells3 (Sat.blk hs2 4 rfl)
  have hrd := hs2.drew.keys_rd HP.out
  obtain ⟨ko, kc, hkv⟩ := (hs2.focus HP.out).own_shape
  dsimp only at hkv n0 n1 n2 n3 hrd
  subst hkv
  rw [HL.out] at n0
  have HRD := Lib.hid hrd
  have HS2 := Lib.hid hs2
  clear hrd hs2
  go_upto_region 3 with (fail)
  refine wp_region_canon [(0, false, 5), (1, false, 5), (2, false, 5), (3, false, 5), (4, false, 5), (5, true, 0), (6, false, 999), (7, false, 999), (8, false, 999), (9, false, 999), (10, false, 999)] (by kernel_rfl) (by kernel_rfl) ?_
  iterate 5 (refine wpCan_read rfl rfl (fun K hK => ?_); go_simp; refine hK _ ?_; clear hK K)
  refine wpCan_eff rfl ?_
  refine wpList_do rfl (fun K hK => ?_)
  go_simp
  refine (search_ok k HRD.out hkb2).mono ?_
  rintro e1 w1 ⟨rfl, hk1⟩
  have HS3 := Lib.hid ((HS2.out.drew).kept hk1)
  clear hk1 HS2 x0 x1 x2 xf t0 t1 t2 t3 t4 tf n0 n1 n2 n3 nf HRD
  rw [HIS.out]
  refine hK _ _ ?_
  clear hK K
  refine wpList_nil ?_
  refine And.intro ?_ ?_
  · go_simp
  iterate 5 (refine wpCan_read rfl rfl (fun K hK => ?_); go_simp; refine hK _ ?_; clear hK K)
  refine wpCan_nil ?_
  go_wp2_with (fail)
  go_ret
  exact ⟨rfl, _, _, _, HNS.out, HS3.out.drop⟩

set_option maxHeartbeats 3000000 in
theorem remove_found {B w : World} {D : PH} {t : Nat} {T : TM} {l : List HP} {i : Nat} {m : NodeM} {k : Val} (hi : T.nodes[i]? = some m) (hl : m.leaf = true) (hkb : m.keys.length ≤ 1000) (hv : m.vals.length = m.keys.length) (his : bsIs m.keys k = true) (h : TreeA B D w t T l) :
    Calls Try.prog 37 #[.pointer (some ⟨t, 0, none⟩), .int .i64 i, k.v] w fun e w' => e = .returned (.bool true) ∧ TreeA B D w' t { T with nodes := T.nodes.set i { m with keys := delAt m.keys (bsAt m.keys k), vals := delAt m.vals (bsAt m.keys k) } } l := by
  obtain ⟨nv, fv, ns, hns, hs⟩ := h
  obtain ⟨⟨kv, vv, dv⟩, hp⟩ := get_node hns hi
  have hlt := (List.getElem?_eq_some_iff.1 hp).1
  obtain ⟨g, c, rfl, _, hcm⟩ := hs.nv_some (by omega)
  unfold maxLen at hcm
  have hs1 := hs.alloc #[.bool k.t, .int .i64 k.n, .string k.s] tV
  have hib : (i : Int) < (ns.length : Int) := by omega
  have HS1 := Lib.hid hs1
  have HP := Lib.hid hp
  have HNS := Lib.hid hns
  have HL := Lib.hid hl
  have HIS := Lib.hid his
  have hbl := bsIs_lt his
  have hkb2 : m.keys.length ≤ 1000000 := by omega
  obtain ⟨nk, hnk⟩ : ∃ nk, m.keys.length = nk + 1 := ⟨m.keys.length - 1, by omega⟩
  obtain ⟨at_, hat⟩ : ∃ at_, bsAt m.keys k = at_ := ⟨_, rfl⟩
  have HNK := Lib.hid hnk
  have HAT := Lib.hid hat
  have HVK := Lib.hid (hv.trans hnk)
  have hal : at_ ≤ nk := by omega
  have hnkb : nk ≤ 1000 := by omega
  clear hs hs1 hp hi hns hl his hv hbl
  dsimp only [Val.v]
  go_enter Try.func37, Try.ntmps37
  go_upto_region 1 with (fail)
  obtain ⟨W, hW, hs2⟩ := HS1.out.hide
  rw [← hW]
  clear HS1 hW
  generalize w.heap.size = bk at hs2 ⊢
  obtain ⟨t0, t1, t2, t3, t4, tf⟩ := hs2.tcells
  obtain ⟨n0, n1, n2, n3, nf⟩ := hs2.node_cells HP.out
  obtain ⟨x0, x1, x2, xf⟩ := cells3 (Sat.blk hs2 4 rfl)
  have hrd := hs2.drew.keys_rd HP.out
  obtain ⟨ko, kc, hkv⟩ := (hs2.focus HP.out).own_shape
  dsimp only at hkv n0 n1 n2 n3 hrd
  subst hkv
  rw [HL.out] at n0
  have HRD := Lib.hid hrd
  have HS2 := Lib.hid hs2
  clear hrd hs2
  clear hnk hat
  go_upto_region 3 with (fail)
  refine wp_region_canon [(0, false, 5), (1, false, 5), (2, false, 5), (3, false, 5), (4, false, 5), (5, true, 0), (6, false, 999), (7, false, 999), (8, false, 999), (9, false, 999), (10, false, 999)] (by kernel_rfl) (by kernel_rfl) ?_
  iterate 5 (refine wpCan_read rfl rfl (fun K hK => ?_); go_simp; refine hK _ ?_; clear hK K)
  refine wpCan_eff rfl ?_
  refine wpList_do rfl (fun K hK => ?_)
  go_simp
  refine (search_ok k HRD.out hkb2).mono ?_
  rintro e1 w1 ⟨rfl, hk1⟩
  have hs3 := (HS2.out.drew).kept hk1
  clear hk1 HS2 x0 x1 x2 xf t0 t1 t2 t3 t4 tf n0 n1 n2 n3 nf HRD
  rw [HIS.out, HAT.out]
  obtain ⟨n0, n1, n2, n3, nf⟩ := hs3.node_cells HP.out
  dsimp only at n0 n1 n2 n3
  have hs3' := hs3.focus HP.out
  unfold keysP at hs3'
  dsimp only at hs3'
  rw [HNK.out] at hs3' n1
  have HS3 := Lib.hid hs3'
  clear hs3 hs3'
  rw [HNK.out]
  refine hK _ _ ?_
  clear hK K
  refine wpList_nil ?_
  refine And.intro ?_ ?_
  · go_simp
  iterate 5 (refine wpCan_read rfl rfl (fun K hK => ?_); go_simp; refine hK _ ?_; clear hK K)
  refine wpCan_nil ?_
  have hw1 : IntKind.i64.wrap ((at_ : Int) + 1) = (at_ : Int) + 1 := i64w _ (by omega) (by omega)
  have hdl : (delAt m.keys at_).length = nk := by have := delAt_len m.keys at_ (by rw [HNK.out]; omega); rw [HNK.out] at this; omega
  have hdv : (delAt m.vals at_).length = nk := by have := delAt_len m.vals at_ (by rw [HVK.out]; omega); rw [HVK.out] at this; omega
  have HDL := Lib.hid hdl
  have HDV := Lib.hid hdv
  clear hdl hdv
  go_upto_region 6 with ((go_at_call 48; refine (delete_Val (i := at_) (n := nk) (flat_delAt Val.len m.keys at_).symm hal HS3.out).mono ?_; rintro e5 w5 ⟨kv5, rfl, hs5⟩; obtain ⟨ko5, kc5, rfl⟩ := hs5.own_shape; clear n0 n1 n2 n3 nf; obtain ⟨n0, n1, n2, n3, nf⟩ := row_cells (hs5.own 4 rfl) HP.out; dsimp only at n0 n1 n2 n3; have HS5 := Lib.hid hs5; clear hs5))
  obtain ⟨kk, hkk⟩ : ∃ kk, delAt m.keys at_ = kk := ⟨_, rfl⟩
  have HKK := Lib.hid hkk
  rw [hkk] at HS5 HDL
  clear hkk
  have hq6 : TreeS B D (w5.setCell ⟨g, i * 4 + 1, none⟩ (.slice ko5 nk kc5)) t (.slice (some ⟨g, 0, none⟩) ns.length c) fv (ns.set i (⟨.slice ko5 nk kc5, vv, dv⟩, { m with keys := kk })) T.free T.k _ := TreeS.set_keys HP.out (by unfold keysP; rw [HDL.out]; exact HS5.out)
  obtain ⟨W6, hW6, hs6⟩ := hq6.hide
  rw [← hW6]
  clear hq6
  have hp6 := set_get_self (x := ((⟨.slice ko5 nk kc5, vv, dv⟩, { m with keys := kk }) : NP)) HP.out
  have hmap6 : (ns.set i ((⟨.slice ko5 nk kc5, vv, dv⟩, { m with keys := kk }) : NP)).map Prod.snd = T.nodes.set i { m with keys := kk } := by rw [List.map_set, HNS.out]
  try dsimp only at hs6
  generalize ns.set i ((⟨.slice ko5 nk kc5, vv, dv⟩, { m with keys := kk }) : NP) = ns6 at hs6 hp6 hmap6
  clear hW6 HS5 HP HNS n0 n1 n2 n3 nf
  obtain ⟨n0, n1, n2, n3, nf⟩ := hs6.node_cells hp6
  dsimp only at n0 n1 n2 n3
  obtain ⟨vo, vc, hvv⟩ := (hs6.focus hp6).drop.own_shape
  dsimp only at hvv
  subst hvv
  have hs7 := (hs6.focus hp6).swap
  unfold valsP at hs7
  try dsimp only at hs7
  rw [HVK.out] at hs7 n2
  have HS7 := Lib.hid hs7
  have HP6 := Lib.hid hp6
  have HMAP6 := Lib.hid hmap6
  clear hs6 hs7 hp6 hmap6
  go_wp2_with ((go_at_call 49; refine (delete_Int (i := at_) (n := nk) (flat_delAt vlen m.vals at_).symm hal HS7.out).mono ?_; rintro e8 w8 ⟨vv8, rfl, hs8⟩; obtain ⟨vo8, vc8, rfl⟩ := hs8.own_shape; clear n0 n1 n2 n3 nf; obtain ⟨n0, n1, n2, n3, nf⟩ := row_cells (hs8.own 4 rfl) HP6.out; dsimp only at n0 n1 n2 n3; have HS8 := Lib.hid hs8; clear hs8))
  go_ret
  obtain ⟨vs, hvs⟩ : ∃ vs, delAt m.vals at_ = vs := ⟨_, rfl⟩
  have h9 := HS8.out
  have h10 := HDV.out
  rw [hvs] at h9 h10
  have hs10 := TreeS.set_vals HP6.out (vs := vs) (vv := .slice vo8 nk vc8) (by unfold valsP; rw [h10]; exact h9)
  refine ⟨rfl, _, _, _, ?_, hs10.drop⟩
  rw [List.map_set, HMAP6.out, List.set_set, HAT.out, hvs, ← HKK.out]
end Go.Proofs.Ytjijemeabfiipaa
