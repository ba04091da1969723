/- The tree: contract of join, at inner nodes (printed by genmend.py). -/
import Derived.Test.YtcbklkcpjldcjaaJ19
namespace Go.Proofs.Ytcbklkcpjldcjaa
open Go.ChangeShapes Go.WideShapes Go.ChangeAt Go.RowKit
set_option maxRecDepth 100000
set_option linter.unusedSimpArgs false

set_option maxHeartbeats 8000000 in
theorem join_inner {B w : World} {D : PH} {t : Nat} {T : TM} {l : List HP} {i C a b q : Nat} {mi mx my : NodeM} {sk : Val} (hi : T.nodes[i]? = some mi) (hx : T.nodes[a]? = some mx) (hy : T.nodes[b]? = some my) (hia : i ≠ a) (hib : i ≠ b) (hab : a ≠ b) (hca : mi.kids[C]? = some a) (hcb : mi.kids[C + 1]? = some b) (hkC : C < mi.keys.length) (hmb : mi.kids.length ≤ 1000) (hlx : mx.leaf = false) (hik : mi.keys.length = q + 1) (hid : mi.kids.length = q + 2)
    (hxb : mx.keys.length ≤ 1000) (hxv : mx.vals.length ≤ 1000) (hxd : mx.kids.length ≤ 1000) (hyb : my.keys.length ≤ 1000) (hyv : my.vals.length ≤ 1000) (hyd : my.kids.length ≤ 1000) (hsk : mi.keys[C]? = some sk) (hnb : T.nodes.length ≤ 1000000) (hfb : T.free.length ≤ 1000000) (h : TreeA B D w t T l) :
    Calls Try.prog 82 #[.pointer (some ⟨t, 0, none⟩), .int .i64 i, .int .i64 (C : Int)] w fun e w' => e = .returned (.tuple #[]) ∧
      TreeA B D w' t ((T.tri i a b { mi with keys := delAt mi.keys C, kids := delAt mi.kids (C + 1) } { mx with keys := (mx.keys ++ [sk]) ++ my.keys, vals := mx.vals ++ my.vals, kids := mx.kids ++ my.kids } my).give b) l := by
  obtain ⟨nv, fv, ns, hns, hs⟩ := h
  obtain ⟨⟨ikv, ivv, idv⟩, hpi⟩ := get_node hns hi
  obtain ⟨⟨xkv, xvv, xdv⟩, hpx⟩ := get_node hns hx
  obtain ⟨⟨ykv, yvv, ydv⟩, hpy⟩ := get_node hns hy
  have hTr : Tri ns ns i a b _ _ _ := ⟨hpi, hpx, hpy, fun _ _ _ _ => rfl, rfl, hia, hib, hab⟩
  obtain ⟨lt1, lt2, lt3⟩ := hTr.lt
  obtain ⟨g, cn, rfl, _, hcm⟩ := hs.nv_some (by omega)
  unfold maxLen at hcm
  have hclt := (List.getElem?_eq_some_iff.1 hcb).1
  obtain ⟨ikg, ikc, hikv, hikc, _⟩ := some_shape (Sat.own (hs.focus hpi) 0 rfl) (by show 0 < mi.keys.length; omega)
  obtain ⟨idg, idc, hidv, _, _⟩ := some_shape (Sat.own (hs.focus hpi) 2 rfl) (by show 0 < mi.kids.length; omega)
  obtain ⟨xko, xkc, hxkv⟩ := (hs.focus hpx).own_shape
  obtain ⟨xvo, xvc, hxvv⟩ := (hs.focus hpx).drop.own_shape
  obtain ⟨xdo, xdc, hxdv⟩ := (hs.focus hpx).drop.drop.own_shape
  obtain ⟨yko, ykc, hykv⟩ := (hs.focus hpy).own_shape
  obtain ⟨yvo, yvc, hyvv⟩ := (hs.focus hpy).drop.own_shape
  obtain ⟨ydo, ydc, hydv⟩ := (hs.focus hpy).drop.drop.own_shape
  dsimp only at hikv hidv hykv hyvv hydv hxkv hxvv hxdv hikc
  have hnl : T.nodes.length = ns.length := by rw [← hns, List.length_map]
  subst hikv hidv hykv hyvv hydv hxkv hxvv hxdv
  generalize hN : ns.length = N at *
  have hib1 : (i : Int) < (N : Int) := by omega
  have hab1 : (a : Int) < (N : Int) := by omega
  have hbb1 : (b : Int) < (N : Int) := by omega
  have hC1 : (C : Int) < (mi.kids.length : Int) := by omega
  have hC2 : (C : Int) + 1 < (mi.kids.length : Int) := by omega
  have hC3 : (C : Int) < (mi.keys.length : Int) := by omega
  have hwC : IntKind.i64.wrap ((C : Int) + 1 - 1) = (C : Int) := by rw [i64w _ (by omega) (by omega)]; omega
  have hwC0 : IntKind.i64.wrap (C : Int) = (C : Int) := i64w _ (by omega) (by omega)
  have hwq0 : IntKind.i64.wrap (q : Int) = (q : Int) := i64w _ (by omega) (by omega)
  have hwC1 : IntKind.i64.wrap ((C : Int) + 1) = (C : Int) + 1 := i64w _ (by omega) (by omega)
  have hwC2 : IntKind.i64.wrap ((C : Int) + 2) = (C : Int) + 1 + 1 := by rw [i64w _ (by omega) (by omega)]; omega
  have hwq : IntKind.i64.wrap ((q : Int) + 1 - 1) = (q : Int) := by rw [i64w _ (by omega) (by omega)]; omega
  have hwq1 : IntKind.i64.wrap ((q : Int) + 1) = (q : Int) + 1 := i64w _ (by omega) (by omega)
  have hqi : (q : Int) < (q : Int) + 1 := by omega
  have hq01 : 0 ≤ (q : Int) + 1 := by omega
  have hC01 : 0 ≤ (C : Int) + 1 := by omega
  obtain ⟨t0, t1, t2, t3, t4, tf⟩ := hs.tcells
  obtain ⟨i0, i1, i2, i3, nf⟩ := hs.node_cells hTr.hi
  obtain ⟨x0, x1, x2, x3, _⟩ := hs.node_cells hTr.ha
  obtain ⟨y0, y1, y2, y3, _⟩ := hs.node_cells hTr.hb
  have hca1 := ids_cell (hs.kids_rd hpi) hca
  have hcb1 := ids_cell (hs.kids_rd hpi) hcb
  dsimp only at i0 i1 i2 i3 x0 x1 x2 x3 y0 y1 y2 y3 hca1 hcb1
  have HS := Lib.hid hs
  have HT := Lib.hid hTr
  have HNS := Lib.hid hns
  have HLX := Lib.hid hlx
  have HIK := Lib.hid hik
  have HID := Lib.hid hid
  have HSK := Lib.hid hsk
  have HNB := Lib.hid hnb
  have HFB := Lib.hid hfb
  have HNL := Lib.hid hnl
  clear hlx hik hid hsk hnb hfb hnl
  clear hs hTr hns hi hx hy hia hib hab hca hcb hpi hpx hpy hN
  push_cast
  go_enter Try.func82, Try.ntmps82
  go_upto_region 2 with (fail)
  go_quiet (fail)
  have hs1 := HS.out.kept ((Kept.refl (fun _ => False) w).drewN nq)
  obtain ⟨W1, hW1⟩ : ∃ W1, W1 = w.drewN nq := ⟨_, rfl⟩
  rw [← hW1] at hs1 ⊢
  clear hW1 HS t0 t1 t2 t3 t4 tf i0 i1 i2 i3 nf x0 x1 x2 x3 y0 y1 y2 y3 hca1 hcb1
  obtain ⟨i0, i1, i2, i3, nf⟩ := hs1.node_cells HT.out.hi
  obtain ⟨x0, x1, x2, x3, _⟩ := hs1.node_cells HT.out.ha
  obtain ⟨y0, y1, y2, y3, _⟩ := hs1.node_cells HT.out.hb
  dsimp only at i0 i1 i2 i3 x0 x1 x2 x3 y0 y1 y2 y3
  have HS1 := Lib.hid hs1
  clear hs1
  rw [HLX.out] at x0
  have hrk := HS1.out.keys_rd HT.out.hi
  dsimp only at hrk

  obtain ⟨j0, j1, j2⟩ := key_cells hrk HSK.out
  simp only [Nat.zero_add, Nat.zero_mul] at j0 j1 j2
  clear hrk
  go_upto_region 4 with (fail)
  refine wp_region_canon [(0, false, 16), (1, false, 13), (2, false, 13), (3, false, 13), (4, false, 13), (5, false, 12), (6, false, 12), (7, false, 12), (8, false, 12), (9, false, 12), (10, false, 12), (11, false, 12), (12, true, 0), (13, true, 0), (14, false, 16), (15, false, 16), (16, true, 0)] (by kernel_rfl) (by kernel_rfl) ?_
  iterate 12 (refine wpCan_read rfl rfl (fun K hK => ?_); go_simp; refine hK _ ?_; clear hK K)
  refine wpCan_eff rfl ?_
  refine wpList_plain rfl (fun K hK => ?_)
  go_simp
  refine hK _ _ ?_
  clear hK K
  refine wpList_nil ?_
  have hal := (HS1.out.alloc #[.bool sk.t, .int .i64 sk.n, .string sk.s] tV).drew
  have hrb := one_rd (size := 3) (cs := Val.cells sk) (Sat.blk hal 4 rfl) rfl
  have hal2 := hal.drop
  obtain ⟨W2, hW2, hal2⟩ := hal2.hide
  rw [← hW2] at hrb ⊢
  generalize W1.heap.size = bx2 at hrb ⊢
  clear hal hW2 HS1 j0 j1 j2 i0 i1 i2 i3 nf x0 x1 x2 x3 y0 y1 y2 y3
  obtain ⟨i0, i1, i2, i3, nf⟩ := hal2.node_cells HT.out.hi
  obtain ⟨x0, x1, x2, x3, _⟩ := hal2.node_cells HT.out.ha
  obtain ⟨y0, y1, y2, y3, _⟩ := hal2.node_cells HT.out.hb
  dsimp only at i0 i1 i2 i3 x0 x1 x2 x3 y0 y1 y2 y3
  have hrk := hal2.keys_rd HT.out.hi
  dsimp only at hrk

  obtain ⟨j0, j1, j2⟩ := key_cells hrk HSK.out
  simp only [Nat.zero_add, Nat.zero_mul] at j0 j1 j2
  clear hrk
  have HAL := Lib.hid hal2
  have HRB := Lib.hid hrb
  clear hal2 hrb
  refine And.intro ?_ ?_
  · go_simp
  refine wpCan_eff rfl ?_
  refine wpList_app_keys rfl _ _ rfl (new := [sk]) HAL.out HT.out.ha rfl rfl (by rw [List.flatMap_singleton]; exact HRB.out) (by show mx.keys.length + 1 ≤ 10000; omega) ?_
  intro o2 c2 w2 y1' nf' hs2
  rw [List.length_singleton] at hs2
  obtain ⟨ns2, hT2, hs2⟩ : ∃ ns2, Tri ns ns2 i a b (⟨.slice (some ⟨ikg, 0, none⟩) mi.keys.length ikc, ivv, .slice (some ⟨idg, 0, none⟩) mi.kids.length idc⟩, mi) (⟨.slice o2 (mx.keys.length + 1) c2, .slice xvo mx.vals.length xvc, .slice xdo mx.kids.length xdc⟩, { mx with keys := mx.keys ++ [sk] }) (⟨.slice yko my.keys.length ykc, .slice yvo my.vals.length yvc, .slice ydo my.kids.length ydc⟩, my) ∧ TreeS B D _ t (.slice (some ⟨g, 0, none⟩) N cn) fv ns2 T.free T.k l := ⟨_, HT.out.set_a _, hs2⟩
  have HS2 := Lib.hid hs2
  have HT2 := Lib.hid hT2
  clear hs2 hT2 HAL HRB j0 j1 j2 i0 i1 i2 i3 nf x0 x1 x2 x3 y0 y1 y2 y3
  refine wpList_nil ?_
  refine And.intro ?_ ?_
  · go_simp
  iterate 2 (refine wpCan_read rfl rfl (fun K hK => ?_); go_simp; refine hK _ ?_; clear hK K)
  refine wpCan_eff rfl ?_
  refine wpList_plain rfl (fun K hK => ?_)
  go_simp
  refine hK _ _ ?_
  clear hK K
  refine wpList_nil ?_
  refine And.intro ?_ ?_
  · go_simp
  refine wpCan_nil ?_
  go_upto_region 5 with (fail)
  obtain ⟨V2, hV2, hs2⟩ := HS2.out.hide
  rw [← hV2]
  clear hV2 HS2 y1' nf'
  obtain ⟨i0, i1, i2, i3, nf⟩ := hs2.node_cells HT2.out.hi
  obtain ⟨x0, x1, x2, x3, _⟩ := hs2.node_cells HT2.out.ha
  obtain ⟨y0, y1, y2, y3, _⟩ := hs2.node_cells HT2.out.hb
  dsimp only at i0 i1 i2 i3 x0 x1 x2 x3 y0 y1 y2 y3
  have HV2 := Lib.hid hs2
  clear hs2
  obtain ⟨kx, hkx⟩ : ∃ kx, mx.keys ++ [sk] = kx := ⟨_, rfl⟩
  have hkl : kx.length = mx.keys.length + 1 := by rw [← hkx]; simp
  rw [hkx] at HT2
  have HKX := Lib.hid hkx
  have HKL := Lib.hid hkl
  clear hkx hkl
  have had := HV2.out.drew
  have hrd := had.keys_rd HT2.out.hb
  go_upto_region 5 with (fail)
  refine wp_region_canon [(0, false, 12), (1, false, 9), (2, false, 9), (3, false, 9), (4, false, 9), (5, false, 9), (6, false, 9), (7, false, 9), (8, false, 9), (9, true, 0), (10, false, 12), (11, false, 12), (12, true, 0)] (by kernel_rfl) (by kernel_rfl) ?_
  iterate 9 (refine wpCan_read rfl rfl (fun K hK => ?_); go_simp; refine hK _ ?_; clear hK K)
  refine wpCan_eff rfl ?_
  refine wpList_app_keys rfl _ _ rfl (new := my.keys) had HT2.out.ha rfl rfl hrd (by show kx.length + my.keys.length ≤ 10000; rw [HKL.out]; omega) ?_
  intro o3 c3 w3 y1' nf' hs3
  obtain ⟨ns3, hT3, hs3⟩ : ∃ ns3, Tri ns ns3 i a b (⟨.slice (some ⟨ikg, 0, none⟩) mi.keys.length ikc, ivv, .slice (some ⟨idg, 0, none⟩) mi.kids.length idc⟩, mi) (⟨.slice o3 (kx.length + my.keys.length) c3, .slice xvo mx.vals.length xvc, .slice xdo mx.kids.length xdc⟩, { mx with keys := kx ++ my.keys }) (⟨.slice yko my.keys.length ykc, .slice yvo my.vals.length yvc, .slice ydo my.kids.length ydc⟩, my) ∧ TreeS B D _ t (.slice (some ⟨g, 0, none⟩) N cn) fv ns3 T.free T.k l := ⟨_, HT2.out.set_a _, hs3⟩
  have HS3 := Lib.hid hs3
  have HT3 := Lib.hid hT3
  clear hs3 hT3 had hrd HV2 i0 i1 i2 i3 nf x0 x1 x2 x3 y0 y1 y2 y3
  refine wpList_nil ?_
  refine And.intro ?_ ?_
  · go_simp
  iterate 2 (refine wpCan_read rfl rfl (fun K hK => ?_); go_simp; refine hK _ ?_; clear hK K)
  refine wpCan_eff rfl ?_
  refine wpList_plain rfl (fun K hK => ?_)
  go_simp
  refine hK _ _ ?_
  clear hK K
  refine wpList_nil ?_
  refine And.intro ?_ ?_
  · go_simp
  refine wpCan_nil ?_
  go_upto_region 6 with (fail)
  obtain ⟨V3, hV3, hs3⟩ := HS3.out.hide
  rw [← hV3]
  clear hV3 HS3 y1' nf'
  obtain ⟨i0, i1, i2, i3, nf⟩ := hs3.node_cells HT3.out.hi
  obtain ⟨x0, x1, x2, x3, _⟩ := hs3.node_cells HT3.out.ha
  obtain ⟨y0, y1, y2, y3, _⟩ := hs3.node_cells HT3.out.hb
  dsimp only at i0 i1 i2 i3 x0 x1 x2 x3 y0 y1 y2 y3
  have HV3 := Lib.hid hs3
  clear hs3
  have had := HV3.out.drew
  have hrd := had.vals_rd HT3.out.hb
  go_upto_region 6 with (fail)
  refine wp_region_canon [(0, false, 12), (1, false, 9), (2, false, 9), (3, false, 9), (4, false, 9), (5, false, 9), (6, false, 9), (7, false, 9), (8, false, 9), (9, true, 0), (10, false, 12), (11, false, 12), (12, true, 0)] (by kernel_rfl) (by kernel_rfl) ?_
  iterate 9 (refine wpCan_read rfl rfl (fun K hK => ?_); go_simp; refine hK _ ?_; clear hK K)
  refine wpCan_eff rfl ?_
  refine wpList_app_vals rfl _ _ rfl (new := my.vals) had HT3.out.ha rfl rfl hrd (by show mx.vals.length + my.vals.length ≤ 10000; omega) ?_
  intro o4 c4 w4 y1' nf' hs4
  obtain ⟨ns4, hT4, hs4⟩ : ∃ ns4, Tri ns ns4 i a b (⟨.slice (some ⟨ikg, 0, none⟩) mi.keys.length ikc, ivv, .slice (some ⟨idg, 0, none⟩) mi.kids.length idc⟩, mi) (⟨.slice o3 (kx.length + my.keys.length) c3, .slice o4 (mx.vals.length + my.vals.length) c4, .slice xdo mx.kids.length xdc⟩, { mx with keys := kx ++ my.keys, vals := mx.vals ++ my.vals }) (⟨.slice yko my.keys.length ykc, .slice yvo my.vals.length yvc, .slice ydo my.kids.length ydc⟩, my) ∧ TreeS B D _ t (.slice (some ⟨g, 0, none⟩) N cn) fv ns4 T.free T.k l := ⟨_, HT3.out.set_a _, hs4⟩
  have HS4 := Lib.hid hs4
  have HT4 := Lib.hid hT4
  clear hs4 hT4 had hrd HV3 i0 i1 i2 i3 nf x0 x1 x2 x3 y0 y1 y2 y3
  refine wpList_nil ?_
  refine And.intro ?_ ?_
  · go_simp
  iterate 2 (refine wpCan_read rfl rfl (fun K hK => ?_); go_simp; refine hK _ ?_; clear hK K)
  refine wpCan_eff rfl ?_
  refine wpList_plain rfl (fun K hK => ?_)
  go_simp
  refine hK _ _ ?_
  clear hK K
  refine wpList_nil ?_
  refine And.intro ?_ ?_
  · go_simp
  refine wpCan_nil ?_
  go_upto_region 7 with (fail)
  obtain ⟨V4, hV4, hs4⟩ := HS4.out.hide
  rw [← hV4]
  clear hV4 HS4 y1' nf'
  obtain ⟨i0, i1, i2, i3, nf⟩ := hs4.node_cells HT4.out.hi
  obtain ⟨x0, x1, x2, x3, _⟩ := hs4.node_cells HT4.out.ha
  obtain ⟨y0, y1, y2, y3, _⟩ := hs4.node_cells HT4.out.hb
  dsimp only at i0 i1 i2 i3 x0 x1 x2 x3 y0 y1 y2 y3
  have HV4 := Lib.hid hs4
  clear hs4
  have had := HV4.out.drew
  have hrd := had.kids_rd HT4.out.hb
  go_upto_region 7 with (fail)
  refine wp_region_canon [(0, false, 12), (1, false, 9), (2, false, 9), (3, false, 9), (4, false, 9), (5, false, 9), (6, false, 9), (7, false, 9), (8, false, 9), (9, true, 0), (10, false, 12), (11, false, 12), (12, true, 0)] (by kernel_rfl) (by kernel_rfl) ?_
  iterate 9 (refine wpCan_read rfl rfl (fun K hK => ?_); go_simp; refine hK _ ?_; clear hK K)
  refine wpCan_eff rfl ?_
  refine wpList_app_kids rfl _ _ rfl (new := my.kids) had HT4.out.ha rfl rfl hrd (by show mx.kids.length + my.kids.length ≤ 10000; omega) ?_
  intro o5 c5 w5 y1' nf' hs5
  obtain ⟨ns5, hT5, hs5⟩ : ∃ ns5, Tri ns ns5 i a b (⟨.slice (some ⟨ikg, 0, none⟩) mi.keys.length ikc, ivv, .slice (some ⟨idg, 0, none⟩) mi.kids.length idc⟩, mi) (⟨.slice o3 (kx.length + my.keys.length) c3, .slice o4 (mx.vals.length + my.vals.length) c4, .slice o5 (mx.kids.length + my.kids.length) c5⟩, { mx with keys := kx ++ my.keys, vals := mx.vals ++ my.vals, kids := mx.kids ++ my.kids }) (⟨.slice yko my.keys.length ykc, .slice yvo my.vals.length yvc, .slice ydo my.kids.length ydc⟩, my) ∧ TreeS B D _ t (.slice (some ⟨g, 0, none⟩) N cn) fv ns5 T.free T.k l := ⟨_, HT4.out.set_a _, hs5⟩
  have HS5 := Lib.hid hs5
  have HT5 := Lib.hid hT5
  clear hs5 hT5 had hrd HV4 i0 i1 i2 i3 nf x0 x1 x2 x3 y0 y1 y2 y3
  refine wpList_nil ?_
  refine And.intro ?_ ?_
  · go_simp
  iterate 2 (refine wpCan_read rfl rfl (fun K hK => ?_); go_simp; refine hK _ ?_; clear hK K)
  refine wpCan_eff rfl ?_
  refine wpList_plain rfl (fun K hK => ?_)
  go_simp
  refine hK _ _ ?_
  clear hK K
  refine wpList_nil ?_
  refine And.intro ?_ ?_
  · go_simp
  refine wpCan_nil ?_
  go_upto_region 8 with (fail)
  obtain ⟨V5, hV5, hs5⟩ := HS5.out.hide
  rw [← hV5]
  clear hV5 HS5 y1' nf'
  obtain ⟨i0, i1, i2, i3, nf⟩ := hs5.node_cells HT5.out.hi
  obtain ⟨x0, x1, x2, x3, _⟩ := hs5.node_cells HT5.out.ha
  obtain ⟨y0, y1, y2, y3, _⟩ := hs5.node_cells HT5.out.hb
  dsimp only at i0 i1 i2 i3 x0 x1 x2 x3 y0 y1 y2 y3
  have HV5 := Lib.hid hs5
  clear hs5
  have hCq : C ≤ q := by have := HIK.out; omega
  go_upto_region 9 with ((go_at_call 67; refine (TreeS.del_keys (q := C) (n := q) HV5.out HT5.out.hi HIK.out hCq).mono ?_; rintro e6 w6 ⟨o6, c6, rfl, y1', nf', hs6⟩; have HD6 := Lib.hid hs6; clear hs6 i0 i1 i2 i3 nf x0 x1 x2 x3 y0 y1 y2 y3))
  obtain ⟨ns6, hT6, hs6⟩ : ∃ ns6, Tri ns ns6 i a b (⟨.slice o6 q c6, ivv, .slice (some ⟨idg, 0, none⟩) mi.kids.length idc⟩, { mi with keys := delAt mi.keys C }) (⟨.slice o3 (kx.length + my.keys.length) c3, .slice o4 (mx.vals.length + my.vals.length) c4, .slice o5 (mx.kids.length + my.kids.length) c5⟩, { mx with keys := kx ++ my.keys, vals := mx.vals ++ my.vals, kids := mx.kids ++ my.kids }) (⟨.slice yko my.keys.length ykc, .slice yvo my.vals.length yvc, .slice ydo my.kids.length ydc⟩, my) ∧ TreeS B D _ t (.slice (some ⟨g, 0, none⟩) N cn) fv ns6 T.free T.k l := ⟨_, HT5.out.set_i _, HD6.out⟩
  have HT6 := Lib.hid hT6
  clear hT6
  obtain ⟨V6, hV6, hs6⟩ := hs6.hide
  rw [← hV6]
  clear hV6 HV5 HD6 y1' nf'
  obtain ⟨i0, i1, i2, i3, nf⟩ := hs6.node_cells HT6.out.hi
  obtain ⟨x0, x1, x2, x3, _⟩ := hs6.node_cells HT6.out.ha
  obtain ⟨y0, y1, y2, y3, _⟩ := hs6.node_cells HT6.out.hb
  dsimp only at i0 i1 i2 i3 x0 x1 x2 x3 y0 y1 y2 y3
  have HV6 := Lib.hid hs6
  clear hs6
  go_upto_region 10 with ((go_at_call 91; refine (TreeS.del_kids (q := C + 1) (n := (q + 1)) HV6.out HT6.out.hi HID.out (by omega)).mono ?_; rintro e7 w7 ⟨o7, c7, rfl, y1', nf', hs7⟩; have HD7 := Lib.hid hs7; clear hs7 i0 i1 i2 i3 nf x0 x1 x2 x3 y0 y1 y2 y3))
  obtain ⟨ns7, hT7, hs7⟩ : ∃ ns7, Tri ns ns7 i a b (⟨.slice o6 q c6, ivv, .slice o7 (q + 1) c7⟩, { mi with keys := delAt mi.keys C, kids := delAt mi.kids (C + 1) }) (⟨.slice o3 (kx.length + my.keys.length) c3, .slice o4 (mx.vals.length + my.vals.length) c4, .slice o5 (mx.kids.length + my.kids.length) c5⟩, { mx with keys := kx ++ my.keys, vals := mx.vals ++ my.vals, kids := mx.kids ++ my.kids }) (⟨.slice yko my.keys.length ykc, .slice yvo my.vals.length yvc, .slice ydo my.kids.length ydc⟩, my) ∧ TreeS B D _ t (.slice (some ⟨g, 0, none⟩) N cn) fv ns7 T.free T.k l := ⟨_, HT6.out.set_i _, HD7.out⟩
  have HT7 := Lib.hid hT7
  clear hT7
  obtain ⟨V7, hV7, hs7⟩ := hs7.hide
  rw [← hV7]
  clear hV7 HV6 HD7 y1' nf'
  obtain ⟨i0, i1, i2, i3, nf⟩ := hs7.node_cells HT7.out.hi
  obtain ⟨x0, x1, x2, x3, _⟩ := hs7.node_cells HT7.out.ha
  obtain ⟨y0, y1, y2, y3, _⟩ := hs7.node_cells HT7.out.hb
  dsimp only at i0 i1 i2 i3 x0 x1 x2 x3 y0 y1 y2 y3
  have HV7 := Lib.hid hs7
  clear hs7
  have HG := Lib.hid (give_ok (i := b) (T := T.tri i a b { mi with keys := delAt mi.keys C, kids := delAt mi.kids (C + 1) } { mx with keys := kx ++ my.keys, vals := mx.vals ++ my.vals, kids := mx.kids ++ my.kids } my) (by unfold TM.tri; simp only [List.length_set]; rw [HNL.out]; exact lt3) (by unfold TM.tri; simp only [List.length_set]; exact HNB.out) HFB.out ⟨_, _, _, HT7.out.done HNS.out, HV7.out⟩)
  go_wp2_with ((go_at_call 54; refine HG.out.mono ?_; rintro e20 w20 ⟨rfl, ha20⟩; have HA20 := Lib.hid ha20; clear ha20))
  go_end0
  rw [HKX.out]
  exact ⟨rfl, HA20.out⟩
end Go.Proofs.Ytcbklkcpjldcjaa
