/- Joined texts: The tree: contracts of give, of remove at a leaf. The tree: contracts of leaf, Get. The tree: contract of Get. -/
import Derived.Test.YtcbklkcpjldcjaaJ14
/- The tree: contracts of give, of remove at a leaf. -/
namespace Go.Proofs.Ytcbklkcpjldcjaa
open Go.ChangeShapes Go.WideShapes Go.ChangeAt Go.RowKit
set_option maxRecDepth 100000
set_option linter.unusedSimpArgs false

theorem infoI : (Try.prog.info? tI).map (fun i => (i.zero, i.size, i.bytes)) = some (some (.int .i64 0), 1, 8) := by kernel_rfl

set_option maxHeartbeats 2000000 in
theorem give_ok {B w : World} {D : PH} {t : Nat} {T : TM} {l : List HP} {i : Nat} (hi : i < T.nodes.length) (hbig : T.nodes.length ≤ 1000000) (hfb : T.free.length ≤ 1000000) (h : TreeA B D w t T l) :
    Calls Try.prog 54 #[.pointer (some ⟨t, 0, none⟩), .int .i64 i] w fun e w' => e = .returned (.tuple #[]) ∧ TreeA B D w' t (T.give i) l := by
  obtain ⟨nodes, free, k⟩ := T
  obtain ⟨nv, fv, ns, hns, hs⟩ := h
  dsimp only at *
  subst hns
  rw [List.length_map] at hbig hi
  obtain ⟨p, hp⟩ : ∃ p, ns[i]? = some p := ⟨ns[i], List.getElem?_eq_getElem hi⟩
  obtain ⟨g, c, rfl, _, hcm⟩ := hs.nv_some (by omega)
  unfold maxLen at hcm
  have hib : (i : Int) < (ns.length : Int) := by omega
  obtain ⟨t0, t1, t2, t3, t4, tf⟩ := hs.tcells
  obtain ⟨n0, n1, n2, n3, nf⟩ := hs.node_cells hp
  have HRS := Lib.hid (hs.reset hp false)
  obtain ⟨i0, hinf, hz0, hz1, hz2⟩ := info_parts infoI
  have HI := Lib.hid (And.intro hinf (And.intro hz0 (And.intro hz1 hz2)))
  have HO := Lib.hid (show ∀ u ∈ [Value.int .i64 (i : Int)], u.oneCell' = true by intro u hu; simp at hu; subst hu; rfl)
  clear hs hp hinf hz0 hz1 hz2
  go_enter Try.func54, Try.ntmps54
  go_upto_region 1 with (fail)
  obtain ⟨W, hW, hs2⟩ := HRS.out.hide
  rw [← hW]
  clear hW HRS t0 t1 t2 t3 t4 tf n0 n1 n2 n3 nf
  obtain ⟨t0, t1, t2, t3, t4, tf⟩ := hs2.tcells
  have hal := hs2.alloc #[.int .i64 (i : Int)] tI
  have hrb := rd_block (size := 1) (n := 1) (Sat.blk hal 4 rfl) rfl (by unfold maxLen; omega)
  have hal2 := Sat.front hal 2 rfl
  simp only [List.eraseIdx_cons_succ, List.eraseIdx_cons_zero] at hal2
  have HAL := Lib.hid hal2
  have HRB := Lib.hid hrb
  clear hs2 hal hrb hal2
  go_wp2_with (at_builtin; refine wpList_append_Sat _ rfl _ _ 98 rfl tI i0 _ 1 8 Try.underlying98 HI.out.1 HI.out.2.1 HI.out.2.2.1 HI.out.2.2.2 rfl _ _ _ rfl HAL.out _ 1 _ rfl HRB.out HO.out (by unfold maxLen; omega) (by omega) ?_; intro v2 w2 h2 h2o; clear t0 t1 t2 t3 t4 tf; obtain ⟨t0, t1, t2, t3, t4, tf⟩ := cells5 (h2.blk 1 rfl); have H2 := Lib.hid h2; clear h2)
  go_end0
  have h3 := H2.out.swap.set 1 v2
  refine ⟨rfl, .slice (some ⟨g, 0, none⟩) ns.length c, v2, ns.set i (freshP false), by rw [List.map_set]; rfl, ?_⟩
  show Sat B D _ (blk t (treeCells _ v2 k) tT :: ownS tN 4 _ (ns.set i (freshP false)).length _ :: kidsP v2 (free ++ [i]) :: group _ :: l)
  unfold kidsP
  rw [List.length_append, List.flatMap_append, List.flatMap_singleton]
  have h4 := h3.perm (((List.Perm.swap _ _ _).cons _).trans (((List.perm_middle (l₁ := [ownS tN 4 (.slice (some ⟨g, 0, none⟩) ns.length c) (ns.set i (freshP false)).length ((ns.set i (freshP false)).flatMap nodeCells), ownS tI 1 v2 (free.length + 1) (free.flatMap ncells ++ [Value.int .i64 (i : Int)]), group ((ns.set i (freshP false)).map nodeP)]) (l₂ := l)).cons _)))
  exact (h4.perm (List.Perm.swap _ _ _)).drop

def delAt {α : Type} (l : List α) (i : Nat) : List α := l.take i ++ l.drop (i + 1)
theorem delAt_len {α : Type} (l : List α) (i : Nat) (h : i < l.length) : (delAt l i).length + 1 = l.length := by unfold delAt; simp; omega
theorem flat_delAt {α : Type} {f : α → List Value} {size : Nat} (hf : ∀ x, (f x).length = size) (l : List α) (i : Nat) : (l.flatMap f).take (i * size) ++ (l.flatMap f).drop ((i + 1) * size) = (delAt l i).flatMap f := by
  rw [flat_take hf, flat_drop hf]
  simp [delAt]

set_option maxHeartbeats 2000000 in
theorem remove_absent {B w : World} {D : PH} {t : Nat} {T : TM} {l : List HP} {i : Nat} {m : NodeM} {k : Val} (hi : T.nodes[i]? = some m) (hl : m.leaf = true) (hkb : m.keys.length ≤ 1000) (his : bsIs m.keys k = false) (h : TreeA B D w t T l) :
    Calls Try.prog 53 #[.pointer (some ⟨t, 0, none⟩), .int .i64 i, k.v] w fun e w' => e = .returned (.bool false) ∧ TreeA B D w' t T l := by
  obtain ⟨nv, fv, ns, hns, hs⟩ := h
  obtain ⟨⟨kv, vv, dv⟩, hp⟩ := get_node hns hi
  have hlt := (List.getElem?_eq_some_iff.1 hp).1
  obtain ⟨g, c, rfl, _, hcm⟩ := hs.nv_some (by omega)
  unfold maxLen at hcm
  have hs1 := hs.alloc #[.bool k.t, .int .i64 k.n, .string k.s] tV
  have hib : (i : Int) < (ns.length : Int) := by omega
  have HS1 := Lib.hid hs1
  have HP := Lib.hid hp
  have HNS := Lib.hid hns
  have HL := Lib.hid hl
  have HIS := Lib.hid his
  have hkb2 : m.keys.length ≤ 1000000 := by omega
  clear hs hs1 hp hi hns hl his
  dsimp only [Val.v]
  go_enter Try.func53, Try.ntmps53
  go_upto_region 1 with (fail)
  obtain ⟨W, hW, hs2⟩ := HS1.out.hide
  rw [← hW]
  clear HS1 hW
  generalize w.heap.size = bk at hs2 ⊢
  obtain ⟨t0, t1, t2, t3, t4, tf⟩ := hs2.tcells
  obtain ⟨n0, n1, n2, n3, nf⟩ := hs2.node_cells HP.out
  obtain ⟨x0, x1, x2, xf⟩ := cells3 (Sat.blk hs2 4 rfl)
  have hrd := hs2.drew.keys_rd HP.out
  obtain ⟨ko, kc, hkv⟩ := (hs2.focus HP.out).own_shape
  dsimp only at hkv n0 n1 n2 n3 hrd
  subst hkv
  rw [HL.out] at n0
  have HRD := Lib.hid hrd
  have HS2 := Lib.hid hs2
  clear hrd hs2
  go_upto_region 3 with (fail)
  refine wp_region_canon [(0, false, 5), (1, false, 5), (2, false, 5), (3, false, 5), (4, false, 5), (5, true, 0), (6, false, 999), (7, false, 999), (8, false, 999), (9, false, 999), (10, false, 999)] (by kernel_rfl) (by kernel_rfl) ?_
  iterate 5 (refine wpCan_read rfl rfl (fun K hK => ?_); go_simp; refine hK _ ?_; clear hK K)
  refine wpCan_eff rfl ?_
  refine wpList_do rfl (fun K hK => ?_)
  go_simp
  refine (search_ok k HRD.out hkb2).mono ?_
  rintro e1 w1 ⟨rfl, hk1⟩
  have HS3 := Lib.hid ((HS2.out.drew).kept hk1)
  clear hk1 HS2 x0 x1 x2 xf t0 t1 t2 t3 t4 tf n0 n1 n2 n3 nf HRD
  rw [HIS.out]
  refine hK _ _ ?_
  clear hK K
  refine wpList_nil ?_
  refine And.intro ?_ ?_
  · go_simp
  iterate 5 (refine wpCan_read rfl rfl (fun K hK => ?_); go_simp; refine hK _ ?_; clear hK K)
  refine wpCan_nil ?_
  go_wp2_with (fail)
  go_ret
  exact ⟨rfl, _, _, _, HNS.out, HS3.out.drop⟩

set_option maxHeartbeats 3000000 in
theorem remove_found {B w : World} {D : PH} {t : Nat} {T : TM} {l : List HP} {i : Nat} {m : NodeM} {k : Val} (hi : T.nodes[i]? = some m) (hl : m.leaf = true) (hkb : m.keys.length ≤ 1000) (hv : m.vals.length = m.keys.length) (his : bsIs m.keys k = true) (h : TreeA B D w t T l) :
    Calls Try.prog 53 #[.pointer (some ⟨t, 0, none⟩), .int .i64 i, k.v] w fun e w' => e = .returned (.bool true) ∧ TreeA B D w' t { T with nodes := T.nodes.set i { m with keys := delAt m.keys (bsAt m.keys k), vals := delAt m.vals (bsAt m.keys k) } } l := by
  obtain ⟨nv, fv, ns, hns, hs⟩ := h
  obtain ⟨⟨kv, vv, dv⟩, hp⟩ := get_node hns hi
  have hlt := (List.getElem?_eq_some_iff.1 hp).1
  obtain ⟨g, c, rfl, _, hcm⟩ := hs.nv_some (by omega)
  unfold maxLen at hcm
  have hs1 := hs.alloc #[.bool k.t, .int .i64 k.n, .string k.s] tV
  have hib : (i : Int) < (ns.length : Int) := by omega
  have HS1 := Lib.hid hs1
  have HP := Lib.hid hp
  have HNS := Lib.hid hns
  have HL := Lib.hid hl
  have HIS := Lib.hid his
  have hbl := bsIs_lt his
  have hkb2 : m.keys.length ≤ 1000000 := by omega
  obtain ⟨nk, hnk⟩ : ∃ nk, m.keys.length = nk + 1 := ⟨m.keys.length - 1, by omega⟩
  obtain ⟨at_, hat⟩ : ∃ at_, bsAt m.keys k = at_ := ⟨_, rfl⟩
  have HNK := Lib.hid hnk
  have HAT := Lib.hid hat
  have HVK := Lib.hid (hv.trans hnk)
  have hal : at_ ≤ nk := by omega
  have hnkb : nk ≤ 1000 := by omega
  clear hs hs1 hp hi hns hl his hv hbl
  dsimp only [Val.v]
  go_enter Try.func53, Try.ntmps53
  go_upto_region 1 with (fail)
  obtain ⟨W, hW, hs2⟩ := HS1.out.hide
  rw [← hW]
  clear HS1 hW
  generalize w.heap.size = bk at hs2 ⊢
  obtain ⟨t0, t1, t2, t3, t4, tf⟩ := hs2.tcells
  obtain ⟨n0, n1, n2, n3, nf⟩ := hs2.node_cells HP.out
  obtain ⟨x0, x1, x2, xf⟩ := cells3 (Sat.blk hs2 4 rfl)
  have hrd := hs2.drew.keys_rd HP.out
  obtain ⟨ko, kc, hkv⟩ := (hs2.focus HP.out).own_shape
  dsimp only at hkv n0 n1 n2 n3 hrd
  subst hkv
  rw [HL.out] at n0
  have HRD := Lib.hid hrd
  have HS2 := Lib.hid hs2
  clear hrd hs2
  clear hnk hat
  go_upto_region 3 with (fail)
  refine wp_region_canon [(0, false, 5), (1, false, 5), (2, false, 5), (3, false, 5), (4, false, 5), (5, true, 0), (6, false, 999), (7, false, 999), (8, false, 999), (9, false, 999), (10, false, 999)] (by kernel_rfl) (by kernel_rfl) ?_
  iterate 5 (refine wpCan_read rfl rfl (fun K hK => ?_); go_simp; refine hK _ ?_; clear hK K)
  refine wpCan_eff rfl ?_
  refine wpList_do rfl (fun K hK => ?_)
  go_simp
  refine (search_ok k HRD.out hkb2).mono ?_
  rintro e1 w1 ⟨rfl, hk1⟩
  have hs3 := (HS2.out.drew).kept hk1
  clear hk1 HS2 x0 x1 x2 xf t0 t1 t2 t3 t4 tf n0 n1 n2 n3 nf HRD
  rw [HIS.out, HAT.out]
  obtain ⟨n0, n1, n2, n3, nf⟩ := hs3.node_cells HP.out
  dsimp only at n0 n1 n2 n3
  have hs3' := hs3.focus HP.out
  unfold keysP at hs3'
  dsimp only at hs3'
  rw [HNK.out] at hs3' n1
  have HS3 := Lib.hid hs3'
  clear hs3 hs3'
  rw [HNK.out]
  refine hK _ _ ?_
  clear hK K
  refine wpList_nil ?_
  refine And.intro ?_ ?_
  · go_simp
  iterate 5 (refine wpCan_read rfl rfl (fun K hK => ?_); go_simp; refine hK _ ?_; clear hK K)
  refine wpCan_nil ?_
  have hw1 : IntKind.i64.wrap ((at_ : Int) + 1) = (at_ : Int) + 1 := i64w _ (by omega) (by omega)
  have hdl : (delAt m.keys at_).length = nk := by have := delAt_len m.keys at_ (by rw [HNK.out]; omega); rw [HNK.out] at this; omega
  have hdv : (delAt m.vals at_).length = nk := by have := delAt_len m.vals at_ (by rw [HVK.out]; omega); rw [HVK.out] at this; omega
  have HDL := Lib.hid hdl
  have HDV := Lib.hid hdv
  clear hdl hdv
  go_upto_region 6 with ((go_at_call 67; refine (delete_Val (i := at_) (n := nk) (flat_delAt Val.len m.keys at_).symm hal HS3.out).mono ?_; rintro e5 w5 ⟨kv5, rfl, hs5⟩; obtain ⟨ko5, kc5, rfl⟩ := hs5.own_shape; clear n0 n1 n2 n3 nf; obtain ⟨n0, n1, n2, n3, nf⟩ := row_cells (hs5.own 4 rfl) HP.out; dsimp only at n0 n1 n2 n3; have HS5 := Lib.hid hs5; clear hs5))
  obtain ⟨kk, hkk⟩ : ∃ kk, delAt m.keys at_ = kk := ⟨_, rfl⟩
  have HKK := Lib.hid hkk
  rw [hkk] at HS5 HDL
  clear hkk
  have hq6 : TreeS B D (w5.setCell ⟨g, i * 4 + 1, none⟩ (.slice ko5 nk kc5)) t (.slice (some ⟨g, 0, none⟩) ns.length c) fv (ns.set i (⟨.slice ko5 nk kc5, vv, dv⟩, { m with keys := kk })) T.free T.k _ := TreeS.set_keys HP.out (by unfold keysP; rw [HDL.out]; exact HS5.out)
  obtain ⟨W6, hW6, hs6⟩ := hq6.hide
  rw [← hW6]
  clear hq6
  have hp6 := set_get_self (x := ((⟨.slice ko5 nk kc5, vv, dv⟩, { m with keys := kk }) : NP)) HP.out
  have hmap6 : (ns.set i ((⟨.slice ko5 nk kc5, vv, dv⟩, { m with keys := kk }) : NP)).map Prod.snd = T.nodes.set i { m with keys := kk } := by rw [List.map_set, HNS.out]
  try dsimp only at hs6
  generalize ns.set i ((⟨.slice ko5 nk kc5, vv, dv⟩, { m with keys := kk }) : NP) = ns6 at hs6 hp6 hmap6
  clear hW6 HS5 HP HNS n0 n1 n2 n3 nf
  obtain ⟨n0, n1, n2, n3, nf⟩ := hs6.node_cells hp6
  dsimp only at n0 n1 n2 n3
  obtain ⟨vo, vc, hvv⟩ := (hs6.focus hp6).drop.own_shape
  dsimp only at hvv
  subst hvv
  have hs7 := (hs6.focus hp6).swap
  unfold valsP at hs7
  try dsimp only at hs7
  rw [HVK.out] at hs7 n2
  have HS7 := Lib.hid hs7
  have HP6 := Lib.hid hp6
  have HMAP6 := Lib.hid hmap6
  clear hs6 hs7 hp6 hmap6
  go_wp2_with ((go_at_call 68; refine (delete_Slot (i := at_) (n := nk) (flat_delAt vlen m.vals at_).symm hal HS7.out).mono ?_; rintro e8 w8 ⟨vv8, rfl, hs8⟩; obtain ⟨vo8, vc8, rfl⟩ := hs8.own_shape; clear n0 n1 n2 n3 nf; obtain ⟨n0, n1, n2, n3, nf⟩ := row_cells (hs8.own 4 rfl) HP6.out; dsimp only at n0 n1 n2 n3; have HS8 := Lib.hid hs8; clear hs8))
  go_ret
  obtain ⟨vs, hvs⟩ : ∃ vs, delAt m.vals at_ = vs := ⟨_, rfl⟩
  have h9 := HS8.out
  have h10 := HDV.out
  rw [hvs] at h9 h10
  have hs10 := TreeS.set_vals HP6.out (vs := vs) (vv := .slice vo8 nk vc8) (by unfold valsP; rw [h10]; exact h9)
  refine ⟨rfl, _, _, _, ?_, hs10.drop⟩
  rw [List.map_set, HMAP6.out, List.set_set, HAT.out, hvs, ← HKK.out]
end Go.Proofs.Ytcbklkcpjldcjaa

/- The tree: contracts of leaf, Get. -/
namespace Go.Proofs.Ytcbklkcpjldcjaa
open Go.ChangeShapes Go.WideShapes Go.ChangeAt Go.RowKit
set_option maxRecDepth 100000
set_option linter.unusedSimpArgs false

/-- from a node down to the leaf in which a key is to be found -/
inductive TM.Leads (T : TM) (k : Val) : Nat → Nat → Nat → Prop
  | leaf {i : Nat} {m : NodeM} (hi : T.nodes[i]? = some m) (hl : m.leaf = true) : TM.Leads T k 0 i i
  | inner {n i kid j : Nat} {m : NodeM} (hi : T.nodes[i]? = some m) (hl : m.leaf = false) (hkb : m.keys.length ≤ 1000) (hc : m.kids[belowF m.keys k]? = some kid) (h : TM.Leads T k n kid j) : TM.Leads T k (n + 1) i j

theorem TM.Leads.uniq {T : TM} {k : Val} {n i j : Nat} (h : T.Leads k n i j) : ∀ {n' j' : Nat}, T.Leads k n' i j' → n = n' ∧ j = j' := by
  induction h with
  | leaf hi hl =>
    intro n' j' h'
    cases h' with
    | leaf => exact ⟨rfl, rfl⟩
    | inner hi' hl' => rw [hi] at hi'; cases hi'; rw [hl] at hl'; cases hl'
  | inner hi hl hkb hc h ih =>
    intro n' j' h'
    cases h' with
    | leaf hi' hl' => rw [hi] at hi'; cases hi'; rw [hl] at hl'; cases hl'
    | inner hi' hl' hkb' hc' h' =>
      rw [hi] at hi'; cases hi'
      rw [hc] at hc'; cases hc'
      obtain ⟨e1, e2⟩ := ih h'
      exact ⟨by rw [e1], e2⟩
open Classical in
noncomputable def TM.lh (T : TM) (k : Val) (i : Nat) : Nat := if h : ∃ n j, T.Leads k n i j then h.choose else 0
theorem TM.lh_eq {T : TM} {k : Val} {n i j : Nat} (h : T.Leads k n i j) : T.lh k i = n := by
  unfold TM.lh
  have hex : ∃ n j, T.Leads k n i j := ⟨n, j, h⟩
  rw [dif_pos hex]
  obtain ⟨j', hj'⟩ := hex.choose_spec
  exact (hj'.uniq h).1

set_option maxHeartbeats 3000000 in
theorem leaf_ok {B w : World} {D : PH} {t g c n r j : Nat} {fv : Value} {ns : List NP} {T : TM} {l : List HP} {k : Val} (hns : ns.map Prod.snd = T.nodes) (hroot : T.k.root = (r : Int)) (hld : T.Leads k n r j)
    (hs : TreeS B D w t (.slice (some ⟨g, 0, none⟩) ns.length c) fv ns T.free T.k l) :
    Calls Try.prog 62 #[.pointer (some ⟨t, 0, none⟩), k.v] w fun e w' => e = .returned (.pointer (some ⟨g, j * 4, none⟩)) ∧ Kept (fun _ => False) w w' := by
  have hk1 : Kept (fun _ => False) w (w.alloc (.cells #[.bool k.t, .int .i64 k.n, .string k.s] tV)) := (Kept.refl _ _).alloc _
  have hb1 : (w.alloc (.cells #[.bool k.t, .int .i64 k.n, .string k.s] tV)).heap[w.heap.size]? = some (.cells #[.bool k.t, .int .i64 k.n, .string k.s] tV (0, 0)) := heap_alloc_self w _
  obtain ⟨_, _, hv, hcm⟩ := hs.nv_any
  cases hv
  obtain ⟨_, _, _, _, hcc⟩ : ∃ _ : Unit, ∃ _ : Unit, ∃ _ : Unit, ∃ _ : Unit, ns.length ≤ c := by
    obtain ⟨_, _, hv, h1, _⟩ := (Sat.own hs 1 rfl).rd.2.2
    cases hv
    exact ⟨(), (), (), (), h1⟩
  unfold maxLen at hcm
  have HS := Lib.hid hs
  have HK1 := Lib.hid hk1
  have HB1 := Lib.hid hb1
  have HNS := Lib.hid hns
  have HLD := Lib.hid hld
  have HRT := Lib.hid hroot
  obtain ⟨t0, t1, t2, t3, t4, tf⟩ := (hs.kept hk1).tcells
  rw [hroot] at t2
  have hr0 : ¬ ((r : Int) < 0) := by omega
  clear hs hk1 hb1 hns hld hroot
  dsimp only [Val.v]
  go_enter Try.func62, Try.ntmps62
  go_upto_region 1 with (fail)
  obtain ⟨W, hW⟩ : ∃ W, W = w.alloc (.cells #[.bool k.t, .int .i64 k.n, .string k.s] tV) := ⟨_, rfl⟩
  rw [← hW] at HK1 HB1 t0 t1 t2 t3 t4 tf ⊢
  generalize w.heap.size = bk at HB1 ⊢
  clear hW
  go_wp2_with (fail)
  clear t0 t1 t2 t3 t4 tf
  go_loopw [5] (fun idx wr => ∃ i n', idx = .int .i64 (i : Nat) ∧ T.Leads k n' i j ∧ Kept (fun _ => False) W wr) (fun idx _ => T.lh k (intOf idx).toNat)
  case atStart => exact ⟨r, n, rfl, HLD.out, Kept.refl _ _⟩
  case round =>
    obtain ⟨i, n', rfl, hld, hk⟩ := hrel
    have hs2 := (HS.out.kept HK1.out).kept hk
    obtain ⟨t0, t1, t2, t3, t4, tf⟩ := hs2.tcells
    rw [HRT.out] at t2
    cases hld with
    | leaf hi hl =>
      obtain ⟨⟨kv, vv, dv⟩, hp⟩ := get_node HNS.out hi
      have hlt := (List.getElem?_eq_some_iff.1 hp).1
      have hib : (j : Int) < (ns.length : Int) := by omega
      obtain ⟨n0, n1, n2, n3, nf⟩ := hs2.node_cells hp
      dsimp only at n0 n1 n2 n3
      rw [hl] at n0
      have HKF := Lib.hid (HK1.out.trans hk (fun _ h => h.elim))
      clear hi hl hp hs2 hk
      go_wp2_with (fail)
      go_ret
      exact ⟨rfl, HKF.out⟩
    | inner hi hl hkb hc h =>
      rename_i nn kid m
      obtain ⟨⟨kv, vv, dv⟩, hp⟩ := get_node HNS.out hi
      have hlt := (List.getElem?_eq_some_iff.1 hp).1
      have hib : (i : Int) < (ns.length : Int) := by omega
      obtain ⟨n0, n1, n2, n3, nf⟩ := hs2.node_cells hp
      dsimp only at n0 n1 n2 n3
      rw [hl] at n0
      obtain ⟨x0, x1, x2, xf⟩ := cells3 ((hk.block _ (lt_of_heap HB1.out) (fun h => h)).trans HB1.out)
      obtain ⟨C, hC⟩ : ∃ C, belowF m.keys k = C := ⟨_, rfl⟩
      rw [hC] at hc
      have hcl := (List.getElem?_eq_some_iff.1 hc).1
      obtain ⟨dg, dc, hdv, hdc1, hdc2⟩ := some_shape (Sat.own (hs2.focus hp) 2 rfl) (by show 0 < m.kids.length; omega)
      dsimp only at hdv
      subst hdv
      have HBL := Lib.hid (below_ok (B := B) (D := D) k hi (by omega) ⟨_, _, _, HNS.out, hs2.drew⟩)
      rw [hC] at HBL
      have hcb : (C : Int) < (m.kids.length : Int) := by omega
      have HH := Lib.hid h
      have HSF := Lib.hid hs2
      have HPP := Lib.hid hp
      have HCC := Lib.hid hc
      have HKK := Lib.hid hk
      have HLH := Lib.hid (show T.lh k i = nn + 1 from TM.lh_eq (.inner hi hl hkb (by rw [hC]; exact hc) h))
      clear hi hl hp hs2 hk h hkb hC hc
      go_upto_region 5 with (fail)
      refine wp_region_canon [(0, false, 999), (1, false, 999), (2, false, 999), (3, false, 999), (4, false, 999), (5, false, 999), (6, false, 999), (7, false, 999), (8, false, 11), (9, false, 11), (10, false, 11), (11, true, 0), (12, false, 999), (13, false, 999), (14, false, 999)] (by kernel_rfl) (by kernel_rfl) ?_
      iterate 11 (refine wpCan_read rfl rfl (fun K hK => ?_); go_simp; refine hK _ ?_; clear hK K)
      refine wpCan_eff rfl ?_
      refine wpList_do rfl (fun K hK => ?_)
      go_simp
      refine HBL.out.mono ?_
      rintro e3 w3 ⟨rfl, hk3⟩
      have hs4 := (HSF.out.drew).kept hk3
      clear t0 t1 t2 t3 t4 tf n0 n1 n2 n3 nf x0 x1 x2 xf
      obtain ⟨t0, t1, t2, t3, t4, tf⟩ := hs4.tcells
      obtain ⟨n0, n1, n2, n3, nf⟩ := hs4.node_cells HPP.out
      dsimp only at n0 n1 n2 n3
      have hcell := ids_cell (hs4.kids_rd HPP.out) HCC.out
      have HK4 := Lib.hid ((HKK.out.trans ((Kept.refl (fun _ => False) _).drew) (fun _ h => h.elim)).trans hk3 (fun _ h => h.elim))
      obtain ⟨x0, x1, x2, xf⟩ := cells3 ((HK4.out.block _ (lt_of_heap HB1.out) (fun h => h)).trans HB1.out)
      clear hk3 hs4
      refine hK _ _ ?_
      clear hK K
      refine wpList_nil ?_
      refine And.intro ?_ ?_
      · go_simp
      iterate 3 (refine wpCan_read rfl rfl (fun K hK => ?_); go_simp; refine hK _ ?_; clear hK K)
      refine wpCan_nil ?_
      go_wp2_with fail
      go_roundw
      case rel => exact ⟨kid, nn, rfl, HH.out, HK4.out⟩
      case measure =>
        have e1 := HLH.out
        have e2 := TM.lh_eq HH.out
        simp only [intOf, Int.toNat_natCast, List.getD_eq_getElem?_getD]
        simp
        omega
end Go.Proofs.Ytcbklkcpjldcjaa

/- The tree: contract of Get. -/
namespace Go.Proofs.Ytcbklkcpjldcjaa
open Go.ChangeShapes Go.WideShapes Go.ChangeAt Go.RowKit
set_option maxRecDepth 100000
set_option linter.unusedSimpArgs false

theorem TM.Leads.end_ {T : TM} {k : Val} {n i j : Nat} (h : T.Leads k n i j) : ∃ m, T.nodes[j]? = some m ∧ m.leaf = true := by
  induction h with
  | leaf hi hl => exact ⟨_, hi, hl⟩
  | inner _ _ _ _ _ ih => exact ih

/-- no first node, or no tree -/
def NilT (w : World) (p : Value) : Prop := p = .pointer none ∨ ∃ t r, p = .pointer (some ⟨t, 0, none⟩) ∧ w.cell? ⟨t, 2, none⟩ = some (.int .i64 r) ∧ r < 0
theorem NilT.kept {w w' : World} {p : Value} (h : NilT w p) (k : Kept (fun _ => False) w w') : NilT w' p := h.imp (fun h => h) (fun ⟨t, r, h1, h2, h3⟩ => ⟨t, r, h1, k.cell' h2 (fun h => h), h3⟩)
/-- where there is no leaf: no first node, or no tree -/
theorem leaf_none {w : World} {k : Val} {p : Value} (hp : NilT w p) :
    Calls Try.prog 62 #[p, k.v] w fun e w' => e = .returned (.pointer none) ∧ Kept (fun _ => False) w w' := by
  have hk1 : Kept (fun _ => False) w (w.alloc (.cells #[.bool k.t, .int .i64 k.n, .string k.s] tV)) := (Kept.refl _ _).alloc _
  have HK1 := Lib.hid hk1
  dsimp only [Val.v]
  rcases hp with rfl | ⟨t, r, rfl, hc, hr⟩
  · clear hk1
    go_enter Try.func62, Try.ntmps62
    go_wp2_with (fail)
    go_ret
    exact ⟨rfl, HK1.out⟩
  · have hc2 := hk1.cell' hc (fun h => h)
    clear hk1 hc
    go_enter Try.func62, Try.ntmps62
    go_wp2_with (fail)
    go_ret
    exact ⟨rfl, HK1.out⟩


theorem results_slot2 {fn : Func} {a b : Tmp} (h : fn.results = #[.cell a tW, .tmp b]) (tmps : Array Value) (w : World) {g : Nat} {x0 x1 x2 : Value} (ha : tmps.getD a undef = .pointer (some ⟨g, 0, none⟩))
    (c0 : w.cell? ⟨g, 0, none⟩ = some x0) (c1 : w.cell? ⟨g, 1, none⟩ = some x1) (c2 : w.cell? ⟨g, 2, none⟩ = some x2) :
    (results fn tmps).run Try.prog w = .ok (.tuple #[.agg #[x0, x1, x2], tmps.getD b undef]) w := by
  have ha' : tmps[a]?.getD undef = .pointer (some ⟨g, 0, none⟩) := by simpa using ha
  simp [results, h, loadVar]
  rw [ha']
  go_simp
theorem results_slot3 {fn : Func} {a b c : Tmp} (h : fn.results = #[.cell a tW, .tmp b, .tmp c]) (tmps : Array Value) (w : World) {g : Nat} {x0 x1 x2 : Value} (ha : tmps.getD a undef = .pointer (some ⟨g, 0, none⟩))
    (c0 : w.cell? ⟨g, 0, none⟩ = some x0) (c1 : w.cell? ⟨g, 1, none⟩ = some x1) (c2 : w.cell? ⟨g, 2, none⟩ = some x2) :
    (results fn tmps).run Try.prog w = .ok (.tuple #[.agg #[x0, x1, x2], tmps.getD b undef, tmps.getD c undef]) w := by
  have ha' : tmps[a]?.getD undef = .pointer (some ⟨g, 0, none⟩) := by simpa using ha
  simp [results, h, loadVar]
  rw [ha']
  go_simp
/-- the three blocks of Get: its zero, its result, its key -/
theorem get_start (w : World) (k : Val) : Sat w (heapOf w) (((w.alloc (.cells #[.bool k.t, .int .i64 k.n, .string k.s] tV)).alloc (.cells #[.bool false, .int .i64 0, .slice none 0 0] tW)).alloc (.cells #[.bool false, .int .i64 0, .slice none 0 0] tW)) [blk (w.heap.size + 1 + 1) #[.bool false, .int .i64 0, .slice none 0 0] tW, blk (w.heap.size + 1) #[.bool false, .int .i64 0, .slice none 0 0] tW, blk w.heap.size #[.bool k.t, .int .i64 k.n, .string k.s] tV] := by
  have h := (((Sat.start w).alloc #[.bool k.t, .int .i64 k.n, .string k.s] tV).alloc #[.bool false, .int .i64 0, .slice none 0 0] tW).alloc #[.bool false, .int .i64 0, .slice none 0 0] tW
  rw [World.size_alloc, World.size_alloc] at h
  exact h
theorem get_res {B w : World} {D : PH} {bz br bk : Nat} {cz ck : Array Value} {x0 x1 x2 : Value} (h : Sat B D w [blk bz cz tW, blk br #[x0, x1, x2] tW, blk bk ck tV]) (v : VT) :
    Sat B D (((w.setCell ⟨br, 0, none⟩ (.bool v.kept)).setCell ⟨br, 1, none⟩ (.int .i64 v.num)).setCell ⟨br, 2, none⟩ (.slice v.ro v.rn v.rc)) [blk br #[.bool v.kept, .int .i64 v.num, .slice v.ro v.rn v.rc] tW, blk bz cz tW, blk bk ck tV] :=
  ((h.swap.set 0 (.bool v.kept)).set 1 (.int .i64 v.num)).set 2 (.slice v.ro v.rn v.rc)

set_option maxHeartbeats 1000000 in
theorem Get_none {w : World} {k : Val} {p : Value} (hp : NilT w p) :
    Calls Try.prog 48 #[p, k.v] w fun e w' => e = .returned (.tuple #[SlotT.none.v, .bool false]) ∧ Kept (fun _ => False) w w' := by
  have hg := get_start w k
  have HP := Lib.hid (hp.kept (hg.drop.drop.drop.end_ (PH.le.refl _)))
  have HG := Lib.hid hg
  clear hg hp
  dsimp only [Val.v, SlotT.v, SlotT.none]
  go_enter Try.func48, Try.ntmps48
  go_upto_region 2 with (fail)
  obtain ⟨W, hW, hs⟩ := Sat.hide HG.out
  rw [← hW] at HP ⊢
  clear hW HG
  generalize w.heap.size + 1 + 1 = bz at hs ⊢
  generalize w.heap.size + 1 = br at hs ⊢
  generalize w.heap.size = bk at hs ⊢
  obtain ⟨x0, x1, x2, xf⟩ := cells3 (hs.blk 2 rfl)
  have HS := Lib.hid hs
  clear hs
  go_wp2_with ((go_at_call 62; refine (leaf_none HP.out).mono ?_; rintro e1 w1 ⟨rfl, hk2⟩; have hs2 := HS.out.kept hk2; clear hk2 x0 x1 x2 xf; obtain ⟨z0, z1, z2, zf⟩ := cells3 (hs2.blk 0 rfl); obtain ⟨r0, r1, r2, rf⟩ := cells3 (hs2.blk 1 rfl); have HR := Lib.hid (get_res hs2 SlotT.none); clear hs2))
  obtain ⟨e0, e1, e2, _⟩ := cells3 (HR.out.blk 0 rfl)
  try simp only [Exit.inBlock, Exit.then]
  refine bodyPost_ret (results_slot2 rfl _ _ rfl e0 e1 e2) rfl ?_
  exact ⟨rfl, HR.out.drop.drop.drop.end_ (PH.le.refl _)⟩

/-- what a leaf has at a key -/
def NodeM.get (m : NodeM) (k : Val) : VT := if valRight k && bsIs m.keys k then m.vals.getD (bsAt m.keys k) SlotT.none else SlotT.none
def NodeM.has (m : NodeM) (k : Val) : Bool := valRight k && bsIs m.keys k

set_option maxHeartbeats 3000000 in
theorem Get_at {B w : World} {D : PH} {t n r j : Nat} {T : TM} {l : List HP} {k : Val} {m : NodeM} (hroot : T.k.root = (r : Int)) (hld : T.Leads k n r j) (hj : T.nodes[j]? = some m) (hkb : m.keys.length ≤ 1000) (hv : m.vals.length = m.keys.length)
    (h : TreeA B D w t T l) :
    Calls Try.prog 48 #[.pointer (some ⟨t, 0, none⟩), k.v] w fun e w' => e = .returned (.tuple #[(m.get k).v, .bool (m.has k)]) ∧ Kept (fun _ => False) w w' := by
  obtain ⟨nv, fv, ns, hns, hs⟩ := h
  obtain ⟨⟨kv, vv, dv⟩, hp⟩ := get_node hns hj
  have hlt := (List.getElem?_eq_some_iff.1 hp).1
  obtain ⟨g, c, rfl, _, hcm⟩ := hs.nv_some (by omega)
  unfold maxLen at hcm
  have hg := get_start w k
  have hk1 := hg.drop.drop.drop.end_ (PH.le.refl _)
  have hib : (j : Int) < (ns.length : Int) := by omega
  obtain ⟨ko, kc, hkv⟩ := (hs.focus hp).own_shape
  obtain ⟨vo, vc, hvv⟩ := (hs.focus hp).drop.own_shape
  dsimp only at hkv hvv
  rw [hv] at hvv
  subst hkv hvv
  have HS := Lib.hid (hs.kept hk1)
  have HG := Lib.hid hg
  have HNS := Lib.hid hns
  have HLD := Lib.hid hld
  have HRT := Lib.hid hroot
  have HP := Lib.hid hp
  have HV := Lib.hid hv
  have hkb2 : m.keys.length ≤ 1000000 := by omega
  clear hs hk1 hg hns hld hroot hp hj hv
  dsimp only [Val.v]
  go_enter Try.func48, Try.ntmps48
  go_upto_region 2 with (fail)
  obtain ⟨W, hW, hb⟩ := Sat.hide HG.out
  rw [← hW] at HS ⊢
  clear hW HG
  generalize w.heap.size + 1 + 1 = bz at hb ⊢
  generalize w.heap.size + 1 = br at hb ⊢
  generalize w.heap.size = bk at hb ⊢
  obtain ⟨x0, x1, x2, xf⟩ := cells3 (hb.blk 2 rfl)
  have HB := Lib.hid hb
  clear hb
  go_upto_region 3 with ((go_at_call 62; refine (leaf_ok HNS.out HRT.out HLD.out HS.out).mono ?_; rintro e1 w1 ⟨rfl, hk2⟩; have HK2 := Lib.hid hk2; clear hk2 x0 x1 x2 xf))
  have hb2 := HB.out.kept HK2.out
  obtain ⟨x0, x1, x2, xf⟩ := cells3 (hb2.blk 2 rfl)
  clear hb2
  cases hr : valRight k
  · have HR := Lib.hid hr
    have HG := Lib.hid (show m.get k = SlotT.none ∧ m.has k = false by unfold NodeM.get NodeM.has; rw [hr]; exact ⟨rfl, rfl⟩)
    clear hr
    go_wp2_with ((go_at_call 52; refine (right_ok k _).mono ?_; rw [HR.out]; rintro e2 w2 ⟨rfl, hk3⟩; have hs2 := HB.out.kept (HK2.out.trans hk3 (fun _ h => h.elim)); clear hk3 x0 x1 x2 xf; obtain ⟨z0, z1, z2, zf⟩ := cells3 (hs2.blk 0 rfl); obtain ⟨r0, r1, r2, rf⟩ := cells3 (hs2.blk 1 rfl); have HE := Lib.hid (get_res hs2 SlotT.none); clear hs2))
    obtain ⟨e0, e1, e2, _⟩ := cells3 (HE.out.blk 0 rfl)
    try simp only [Exit.inBlock, Exit.then]
    refine bodyPost_ret (results_slot2 rfl _ _ rfl e0 e1 e2) rfl ?_
    exact ⟨by rw [HG.out.1, HG.out.2]; rfl, HE.out.drop.drop.drop.end_ (PH.le.refl _)⟩
  · have HR := Lib.hid hr
    clear hr
    go_upto_region 5 with ((go_at_call 52; refine (right_ok k _).mono ?_; rw [HR.out]; rintro e2 w2 ⟨rfl, hk3⟩; have HK4 := Lib.hid (HK2.out.trans hk3 (fun _ h => h.elim)); clear hk3 x0 x1 x2 xf))
    have hs4 := HS.out.kept HK4.out
    have hb4 := HB.out.kept HK4.out
    obtain ⟨x0, x1, x2, xf⟩ := cells3 (hb4.blk 2 rfl)
    obtain ⟨n0, n1, n2, n3, nf⟩ := hs4.node_cells HP.out
    dsimp only at n0 n1 n2 n3
    have hrd := hs4.drew.keys_rd HP.out
    dsimp only at hrd
    have HRD := Lib.hid hrd
    have HS4 := Lib.hid hs4
    have HB4 := Lib.hid hb4
    clear hrd hs4 hb4
    refine wp_region_canon [(0, false, 5), (1, false, 5), (2, false, 5), (3, false, 5), (4, false, 5), (5, true, 0), (6, false, 999), (7, false, 999), (8, false, 999), (9, false, 999), (10, false, 999)] (by kernel_rfl) (by kernel_rfl) ?_
    iterate 5 (refine wpCan_read rfl rfl (fun K hK => ?_); go_simp; refine hK _ ?_; clear hK K)
    refine wpCan_eff rfl ?_
    refine wpList_do rfl (fun K hK => ?_)
    go_simp
    refine (search_ok k HRD.out hkb2).mono ?_
    rintro e5 w5 ⟨rfl, hk5⟩
    have hk5' : Kept (fun _ => False) w2 w5 := ((Kept.refl _ _).drew).trans hk5 (fun _ h => h.elim)
    have hs5 := HS4.out.kept hk5'
    have hb5 := HB4.out.kept hk5'
    clear x0 x1 x2 xf n0 n1 n2 n3 nf HRD hk5 hk5'
    obtain ⟨n0, n1, n2, n3, nf⟩ := hs5.node_cells HP.out
    dsimp only at n0 n1 n2 n3
    obtain ⟨z0, z1, z2, zf⟩ := cells3 (hb5.blk 0 rfl)
    obtain ⟨r0, r1, r2, rf⟩ := cells3 (hb5.blk 1 rfl)
    have HVR := Lib.hid (hs5.vals_rd HP.out)
    have HB5 := Lib.hid hb5
    clear hs5 hb5
    refine hK _ _ ?_
    clear hK K
    refine wpList_nil ?_
    refine And.intro ?_ ?_
    · go_simp
    iterate 5 (refine wpCan_read rfl rfl (fun K hK => ?_); go_simp; refine hK _ ?_; clear hK K)
    refine wpCan_nil ?_
    cases his : bsIs m.keys k
    · have HG := Lib.hid (show m.get k = SlotT.none ∧ m.has k = false by unfold NodeM.get NodeM.has; rw [his, Bool.and_false]; exact ⟨rfl, rfl⟩)
      have HE := Lib.hid (get_res HB5.out SlotT.none)
      clear his
      go_wp2_with (fail)
      obtain ⟨e0, e1, e2, _⟩ := cells3 (HE.out.blk 0 rfl)
      try simp only [Exit.inBlock, Exit.then]
      refine bodyPost_ret (results_slot2 rfl _ _ rfl e0 e1 e2) rfl ?_
      exact ⟨by rw [HG.out.1, HG.out.2]; rfl, HE.out.drop.drop.drop.end_ (PH.le.refl _)⟩
    · have hbl := bsIs_lt his
      obtain ⟨v, hvx⟩ : ∃ v, m.vals[bsAt m.keys k]? = some v := ⟨m.vals[bsAt m.keys k]'(by rw [HV.out]; exact hbl), List.getElem?_eq_getElem _⟩
      have hvr := HVR.out
      dsimp only at hvr
      rw [HV.out] at hvr
      obtain ⟨vg, vo2, vc2, hvq, hv0, hv1, hv2⟩ := vals_at hvr hvx HV.out
      rw [Value.slice.injEq] at hvq
      obtain ⟨rfl, -, rfl⟩ := hvq
      have hab : (bsAt m.keys k : Int) < (m.keys.length : Int) := by omega
      have HG := Lib.hid (show m.get k = v ∧ m.has k = true by unfold NodeM.get NodeM.has; rw [HR.out, his, Bool.and_true, if_pos rfl, List.getD_eq_getElem?_getD, hvx]; exact ⟨rfl, rfl⟩)
      have HE := Lib.hid (get_res HB5.out v)
      clear his hvx hvr
      go_wp2_with (fail)
      obtain ⟨e0, e1, e2, _⟩ := cells3 (HE.out.blk 0 rfl)
      try simp only [Exit.inBlock, Exit.then]
      refine bodyPost_ret (results_slot2 rfl _ _ rfl e0 e1 e2) rfl ?_
      exact ⟨by rw [HG.out.1, HG.out.2]; rfl, HE.out.drop.drop.drop.end_ (PH.le.refl _)⟩
end Go.Proofs.Ytcbklkcpjldcjaa
