/- The tree: contract of fromLeft, at inner nodes (printed by genmend.py). -/
import Derived.Test.YtcbklkcpjldcjaaJ19
namespace Go.Proofs.Ytcbklkcpjldcjaa
open Go.ChangeShapes Go.WideShapes Go.ChangeAt Go.RowKit
set_option maxRecDepth 100000
set_option linter.unusedSimpArgs false

set_option maxHeartbeats 8000000 in
theorem fromLeft_inner {B w : World} {D : PH} {t : Nat} {T : TM} {l : List HP} {i C a b q xd : Nat} {mi mx my : NodeM} {xk sk : Val} (hi : T.nodes[i]? = some mi) (hx : T.nodes[a]? = some mx) (hy : T.nodes[b]? = some my) (hia : i ≠ a) (hib : i ≠ b) (hab : a ≠ b) (hca : mi.kids[C]? = some a) (hcb : mi.kids[C + 1]? = some b) (hkC : C < mi.keys.length) (hmb : mi.kids.length ≤ 1000) (hlx : my.leaf = false) (hxl : mx.keys.length = q + 1) (hxv : mx.kids.length = q + 2) (hyv : my.kids.length ≤ 1000) (hxb : q ≤ 1000) (hyb : my.keys.length ≤ 1000)
    (hxk : mx.keys[q]? = some xk) (hxvv : mx.kids[q + 1]? = some xd) (hsk : mi.keys[C]? = some sk) (h : TreeA B D w t T l) :
    Calls Try.prog 80 #[.pointer (some ⟨t, 0, none⟩), .int .i64 i, .int .i64 ((C + 1 : Nat) : Int)] w fun e w' => e = .returned (.tuple #[]) ∧
      TreeA B D w' t (T.tri i a b { mi with keys := mi.keys.set C xk } { mx with keys := mx.keys.take q, kids := mx.kids.take (q + 1) } { my with keys := insAt my.keys 0 sk, kids := insAt my.kids 0 xd }) l := by
  obtain ⟨nv, fv, ns, hns, hs⟩ := h
  obtain ⟨⟨ikv, ivv, idv⟩, hpi⟩ := get_node hns hi
  obtain ⟨⟨xkv, xvv, xdv⟩, hpx⟩ := get_node hns hx
  obtain ⟨⟨ykv, yvv, ydv⟩, hpy⟩ := get_node hns hy
  have hTr : Tri ns ns i a b _ _ _ := ⟨hpi, hpx, hpy, fun _ _ _ _ => rfl, rfl, hia, hib, hab⟩
  obtain ⟨lt1, lt2, lt3⟩ := hTr.lt
  obtain ⟨g, cn, rfl, _, hcm⟩ := hs.nv_some (by omega)
  unfold maxLen at hcm
  have hclt := (List.getElem?_eq_some_iff.1 hcb).1
  obtain ⟨ikg, ikc, hikv, hikc, _⟩ := some_shape (Sat.own (hs.focus hpi) 0 rfl) (by show 0 < mi.keys.length; omega)
  obtain ⟨idg, idc, hidv, _, _⟩ := some_shape (Sat.own (hs.focus hpi) 2 rfl) (by show 0 < mi.kids.length; omega)
  obtain ⟨xkg, xkc, hxkv, hxkc, hxkc2⟩ := some_shape (Sat.own (hs.focus hpx) 0 rfl) (by show 0 < mx.keys.length; omega)
  obtain ⟨xdg, xdc, hxvv2, hxvc, hxvc2⟩ := some_shape (Sat.own (hs.focus hpx) 2 rfl) (by show 0 < mx.kids.length; omega)
  obtain ⟨yko, ykc, hykv⟩ := (hs.focus hpy).own_shape
  obtain ⟨ydo, ydc, hyvv⟩ := (hs.focus hpy).drop.drop.own_shape
  dsimp only at hikv hidv hxkv hxvv2 hykv hyvv hikc hxkc hxvc
  rw [hxl] at hxkv hxkc
  rw [hxv] at hxvv2 hxvc
  subst hikv hidv hxkv hxvv2 hykv hyvv
  have hqkc : (q : Int) ≤ (xkc : Int) := by omega
  have hqvc : (q : Int) + 1 ≤ (xdc : Int) := by omega
  have hqd : (q : Int) + 1 < (q : Int) + 2 := by omega
  generalize hN : ns.length = N at *
  have hib1 : (i : Int) < (N : Int) := by omega
  have hab1 : (a : Int) < (N : Int) := by omega
  have hbb1 : (b : Int) < (N : Int) := by omega
  have hC1 : (C : Int) < (mi.kids.length : Int) := by omega
  have hC2 : (C : Int) + 1 < (mi.kids.length : Int) := by omega
  have hC3 : (C : Int) < (mi.keys.length : Int) := by omega
  have hwC : IntKind.i64.wrap ((C : Int) + 1 - 1) = (C : Int) := by rw [i64w _ (by omega) (by omega)]; omega
  have hwC0 : IntKind.i64.wrap (C : Int) = (C : Int) := i64w _ (by omega) (by omega)
  have hwq0 : IntKind.i64.wrap (q : Int) = (q : Int) := i64w _ (by omega) (by omega)
  have hwC1 : IntKind.i64.wrap ((C : Int) + 1) = (C : Int) + 1 := i64w _ (by omega) (by omega)
  have hwC2 : IntKind.i64.wrap ((C : Int) + 2) = (C : Int) + 1 + 1 := by rw [i64w _ (by omega) (by omega)]; omega
  have hwq : IntKind.i64.wrap ((q : Int) + 1 - 1) = (q : Int) := by rw [i64w _ (by omega) (by omega)]; omega
  have hwq1 : IntKind.i64.wrap ((q : Int) + 1) = (q : Int) + 1 := i64w _ (by omega) (by omega)
  have hqi : (q : Int) < (q : Int) + 1 := by omega
  have hq01 : 0 ≤ (q : Int) + 1 := by omega
  have hC01 : 0 ≤ (C : Int) + 1 := by omega
  obtain ⟨t0, t1, t2, t3, t4, tf⟩ := hs.tcells
  obtain ⟨i0, i1, i2, i3, nf⟩ := hs.node_cells hTr.hi
  obtain ⟨x0, x1, x2, x3, _⟩ := hs.node_cells hTr.ha
  obtain ⟨y0, y1, y2, y3, _⟩ := hs.node_cells hTr.hb
  have hca1 := ids_cell (hs.kids_rd hpi) hca
  have hcb1 := ids_cell (hs.kids_rd hpi) hcb
  dsimp only at i0 i1 i2 i3 x0 x1 x2 x3 y0 y1 y2 y3 hca1 hcb1
  have HS := Lib.hid hs
  have HT := Lib.hid hTr
  have HNS := Lib.hid hns
  have HLX := Lib.hid hlx
  have HXL := Lib.hid hxl
  have HXV := Lib.hid hxv
  have HXK := Lib.hid hxk
  have HXVV := Lib.hid hxvv
  have HSK := Lib.hid hsk
  clear hlx hxl hxv hxk hxvv hsk
  clear hs hTr hns hi hx hy hia hib hab hca hcb hpi hpx hpy hN
  push_cast
  go_enter Try.func80, Try.ntmps80
  go_upto_region 1 with (fail)
  go_quiet (fail)
  have hs1 := HS.out.kept ((Kept.refl (fun _ => False) w).drewN nq)
  obtain ⟨W1, hW1⟩ : ∃ W1, W1 = w.drewN nq := ⟨_, rfl⟩
  rw [← hW1] at hs1 ⊢
  clear hW1 HS t0 t1 t2 t3 t4 tf i0 i1 i2 i3 nf x0 x1 x2 x3 y0 y1 y2 y3 hca1 hcb1
  obtain ⟨i0, i1, i2, i3, nf⟩ := hs1.node_cells HT.out.hi
  obtain ⟨x0, x1, x2, x3, _⟩ := hs1.node_cells HT.out.ha
  obtain ⟨y0, y1, y2, y3, _⟩ := hs1.node_cells HT.out.hb
  dsimp only at i0 i1 i2 i3 x0 x1 x2 x3 y0 y1 y2 y3
  have HS1 := Lib.hid hs1
  clear hs1
  rw [HLX.out] at y0
  have hrk := HS1.out.keys_rd HT.out.hi
  dsimp only at hrk

  obtain ⟨j0, j1, j2⟩ := key_cells hrk HSK.out
  simp only [Nat.zero_add, Nat.zero_mul] at j0 j1 j2
  clear hrk
  go_upto_region 8 with (fail)
  refine wp_region_canon [(0, false, 17), (1, false, 14), (2, false, 14), (3, false, 14), (4, false, 14), (5, false, 13), (6, false, 13), (7, false, 13), (8, false, 13), (9, false, 13), (10, false, 13), (11, false, 13), (12, false, 13), (13, true, 0), (14, true, 0), (15, false, 17), (16, false, 17), (17, true, 0)] (by kernel_rfl) (by kernel_rfl) ?_
  iterate 13 (refine wpCan_read rfl rfl (fun K hK => ?_); go_simp; refine hK _ ?_; clear hK K)
  refine wpCan_eff rfl ?_
  refine wpList_plain rfl (fun K hK => ?_)
  go_simp
  refine hK _ _ ?_
  clear hK K
  refine wpList_nil ?_
  have hal := (HS1.out.alloc #[.bool sk.t, .int .i64 sk.n, .string sk.s] tV).drew
  obtain ⟨W2, hW2, hal⟩ := hal.hide
  rw [← hW2]
  generalize W1.heap.size = bx2 at hal ⊢
  clear hW2 HS1 j0 j1 j2 i0 i1 i2 i3 nf x0 x1 x2 x3 y0 y1 y2 y3
  obtain ⟨i0, i1, i2, i3, nf⟩ := hal.node_cells HT.out.hi
  obtain ⟨x0, x1, x2, x3, _⟩ := hal.node_cells HT.out.ha
  obtain ⟨y0, y1, y2, y3, _⟩ := hal.node_cells HT.out.hb
  dsimp only at i0 i1 i2 i3 x0 x1 x2 x3 y0 y1 y2 y3
  have hrk := hal.keys_rd HT.out.hi
  dsimp only at hrk

  obtain ⟨j0, j1, j2⟩ := key_cells hrk HSK.out
  simp only [Nat.zero_add, Nat.zero_mul] at j0 j1 j2
  clear hrk
  have HAL := Lib.hid hal
  clear hal
  refine And.intro ?_ ?_
  · go_simp
  refine wpCan_eff rfl ?_
  refine wpList_do rfl (fun K hK => ?_)
  go_simp
  refine (TreeS.ins_keys (q := 0) (x := sk) HAL.out HT.out.hb (Nat.zero_le _) (by show (my.keys.length + 1) * 32 ≤ _; omega)).mono ?_
  rintro e2 w2 ⟨o2, c2, rfl, y1', nf', hs2⟩
  obtain ⟨ns2, hT2, hs2⟩ : ∃ ns2, Tri ns ns2 i a b (⟨.slice (some ⟨ikg, 0, none⟩) mi.keys.length ikc, ivv, .slice (some ⟨idg, 0, none⟩) mi.kids.length idc⟩, mi) (⟨.slice (some ⟨xkg, 0, none⟩) (q + 1) xkc, xvv, .slice (some ⟨xdg, 0, none⟩) (q + 2) xdc⟩, mx) (⟨.slice o2 (my.keys.length + 1) c2, yvv, .slice ydo my.kids.length ydc⟩, { my with keys := insAt my.keys 0 sk }) ∧ TreeS B D _ t (.slice (some ⟨g, 0, none⟩) N cn) fv ns2 T.free T.k l := ⟨_, HT.out.set_b _, hs2⟩
  have HS2 := Lib.hid hs2
  have HT2 := Lib.hid hT2
  clear hs2 hT2 HAL j0 j1 j2 i0 i1 i2 i3 nf x0 x1 x2 x3 y0 y1 y2 y3
  refine hK _ _ ?_
  clear hK K
  refine wpList_nil ?_
  refine And.intro ?_ ?_
  · go_simp
  iterate 2 (refine wpCan_read rfl rfl (fun K hK => ?_); go_simp; refine hK _ ?_; clear hK K)
  refine wpCan_eff rfl ?_
  refine wpList_plain rfl (fun K hK => ?_)
  go_simp
  refine hK _ _ ?_
  clear hK K
  refine wpList_nil ?_
  refine And.intro ?_ ?_
  · go_simp
  refine wpCan_nil ?_
  go_upto_region 9 with (fail)
  obtain ⟨V2, hV2, hs2⟩ := HS2.out.hide
  rw [← hV2]
  clear hV2 HS2 y1' nf'
  obtain ⟨i0, i1, i2, i3, nf⟩ := hs2.node_cells HT2.out.hi
  obtain ⟨x0, x1, x2, x3, _⟩ := hs2.node_cells HT2.out.ha
  obtain ⟨y0, y1, y2, y3, _⟩ := hs2.node_cells HT2.out.hb
  dsimp only at i0 i1 i2 i3 x0 x1 x2 x3 y0 y1 y2 y3
  have HV2 := Lib.hid hs2
  clear hs2
  have hrk := HV2.out.kids_rd HT2.out.ha
  dsimp only at hrk
  rw [HXV.out] at hrk
  have v0 := kid_cell hrk HXVV.out
  clear hrk
  go_upto_region 9 with (fail)
  refine wp_region_canon [(0, false, 17), (1, false, 14), (2, false, 14), (3, false, 14), (4, false, 14), (5, false, 13), (6, false, 13), (7, false, 13), (8, false, 13), (9, false, 13), (10, false, 13), (11, false, 13), (12, false, 13), (13, true, 0), (14, true, 0), (15, false, 17), (16, false, 17), (17, true, 0)] (by kernel_rfl) (by kernel_rfl) ?_
  iterate 13 (refine wpCan_read rfl rfl (fun K hK => ?_); go_simp; refine hK _ ?_; clear hK K)
  refine wpCan_eff rfl ?_
  refine wpList_plain rfl (fun K hK => ?_)
  go_simp
  refine hK _ _ ?_
  clear hK K
  refine wpList_nil ?_
  have hal := (HV2.out.alloc #[.int .i64 (xd : Int)] tI).drew
  obtain ⟨W3, hW3, hal⟩ := hal.hide
  rw [← hW3]
  generalize V2.heap.size = bx3 at hal ⊢
  clear hW3 HV2 v0 i0 i1 i2 i3 nf x0 x1 x2 x3 y0 y1 y2 y3
  obtain ⟨i0, i1, i2, i3, nf⟩ := hal.node_cells HT2.out.hi
  obtain ⟨x0, x1, x2, x3, _⟩ := hal.node_cells HT2.out.ha
  obtain ⟨y0, y1, y2, y3, _⟩ := hal.node_cells HT2.out.hb
  dsimp only at i0 i1 i2 i3 x0 x1 x2 x3 y0 y1 y2 y3
  have hrk := hal.kids_rd HT2.out.ha
  dsimp only at hrk
  rw [HXV.out] at hrk
  have v0 := kid_cell hrk HXVV.out
  clear hrk
  have HAL := Lib.hid hal
  clear hal
  refine And.intro ?_ ?_
  · go_simp
  refine wpCan_eff rfl ?_
  refine wpList_do rfl (fun K hK => ?_)
  go_simp
  refine (TreeS.ins_kids (q := 0) (x := xd) HAL.out HT2.out.hb (Nat.zero_le _) (by show (my.kids.length + 1) * 8 ≤ _; omega)).mono ?_
  rintro e3 w3 ⟨o3, c3, rfl, y1', nf', hs3⟩
  obtain ⟨ns3, hT3, hs3⟩ : ∃ ns3, Tri ns ns3 i a b (⟨.slice (some ⟨ikg, 0, none⟩) mi.keys.length ikc, ivv, .slice (some ⟨idg, 0, none⟩) mi.kids.length idc⟩, mi) (⟨.slice (some ⟨xkg, 0, none⟩) (q + 1) xkc, xvv, .slice (some ⟨xdg, 0, none⟩) (q + 2) xdc⟩, mx) (⟨.slice o2 (my.keys.length + 1) c2, yvv, .slice o3 (my.kids.length + 1) c3⟩, { my with keys := insAt my.keys 0 sk, kids := insAt my.kids 0 xd }) ∧ TreeS B D _ t (.slice (some ⟨g, 0, none⟩) N cn) fv ns3 T.free T.k l := ⟨_, HT2.out.set_b _, hs3⟩
  have HS3 := Lib.hid hs3
  have HT3 := Lib.hid hT3
  clear hs3 hT3 HAL v0 i0 i1 i2 i3 nf x0 x1 x2 x3 y0 y1 y2 y3
  refine hK _ _ ?_
  clear hK K
  refine wpList_nil ?_
  refine And.intro ?_ ?_
  · go_simp
  iterate 2 (refine wpCan_read rfl rfl (fun K hK => ?_); go_simp; refine hK _ ?_; clear hK K)
  refine wpCan_eff rfl ?_
  refine wpList_plain rfl (fun K hK => ?_)
  go_simp
  refine hK _ _ ?_
  clear hK K
  refine wpList_nil ?_
  refine And.intro ?_ ?_
  · go_simp
  refine wpCan_nil ?_
  go_upto_region 10 with (fail)
  obtain ⟨V3, hV3, hs3⟩ := HS3.out.hide
  rw [← hV3]
  clear hV3 HS3 y1' nf'
  obtain ⟨i0, i1, i2, i3, nf⟩ := hs3.node_cells HT3.out.hi
  obtain ⟨x0, x1, x2, x3, _⟩ := hs3.node_cells HT3.out.ha
  obtain ⟨y0, y1, y2, y3, _⟩ := hs3.node_cells HT3.out.hb
  dsimp only at i0 i1 i2 i3 x0 x1 x2 x3 y0 y1 y2 y3
  have HV3 := Lib.hid hs3
  clear hs3
  have hro := Sat.own (HV3.out.focus HT3.out.hi) 0 rfl
  dsimp only at hro
  obtain ⟨_, _, hrr⟩ := hro.row
  have pf := hrr.frozen
  clear hro hrr
  have hrk := HV3.out.keys_rd HT3.out.ha
  dsimp only at hrk
  rw [HXL.out] at hrk
  obtain ⟨k0, k1, k2⟩ := key_cells hrk HXK.out
  simp only [Nat.zero_add, Nat.zero_mul] at k0 k1 k2
  clear hrk
  have hrk := HV3.out.keys_rd HT3.out.hi
  dsimp only at hrk

  obtain ⟨j0, j1, j2⟩ := key_cells hrk HSK.out
  simp only [Nat.zero_add, Nat.zero_mul] at j0 j1 j2
  clear hrk
  go_upto_region 10 with (fail)
  have hs4 := (HV3.out.key_set HT3.out.hi rfl C xk (by show C < mi.keys.length; omega)).drew
  obtain ⟨ns4, hT4, hs4⟩ : ∃ ns4, Tri ns ns4 i a b (⟨.slice (some ⟨ikg, 0, none⟩) mi.keys.length ikc, ivv, .slice (some ⟨idg, 0, none⟩) mi.kids.length idc⟩, { mi with keys := mi.keys.set C xk }) (⟨.slice (some ⟨xkg, 0, none⟩) (q + 1) xkc, xvv, .slice (some ⟨xdg, 0, none⟩) (q + 2) xdc⟩, mx) (⟨.slice o2 (my.keys.length + 1) c2, yvv, .slice o3 (my.kids.length + 1) c3⟩, { my with keys := insAt my.keys 0 sk, kids := insAt my.kids 0 xd }) ∧ TreeS B D _ t (.slice (some ⟨g, 0, none⟩) N cn) fv ns4 T.free T.k l := ⟨_, HT3.out.set_i _, hs4⟩
  have HS4 := Lib.hid hs4
  have HT4 := Lib.hid hT4
  clear hs4 hT4
  refine wp_region_canon [(0, false, 14), (1, false, 14), (2, false, 14), (3, false, 14), (4, false, 14), (5, false, 14), (6, false, 14), (7, false, 14), (8, false, 14), (9, false, 14), (10, false, 14), (11, false, 14), (12, false, 14), (13, false, 14), (14, true, 0)] (by kernel_rfl) (by kernel_rfl) ?_
  iterate 14 (refine wpCan_read rfl rfl (fun K hK => ?_); go_simp; refine hK _ ?_; clear hK K)
  refine wpCan_eff rfl ?_
  refine wpList_plain rfl (fun K hK => ?_)
  go_simp
  refine hK _ _ ?_
  clear hK K
  refine wpList_nil ?_
  refine And.intro ?_ ?_
  · go_simp
  refine wpCan_nil ?_
  clear HV3 k0 k1 k2 j0 j1 j2 pf i0 i1 i2 i3 nf x0 x1 x2 x3 y0 y1 y2 y3
  go_upto_region 11 with (fail)
  obtain ⟨V4, hV4, hs4⟩ := HS4.out.hide
  rw [← hV4]
  clear hV4 HS4
  obtain ⟨i0, i1, i2, i3, nf⟩ := hs4.node_cells HT4.out.hi
  obtain ⟨x0, x1, x2, x3, _⟩ := hs4.node_cells HT4.out.ha
  obtain ⟨y0, y1, y2, y3, _⟩ := hs4.node_cells HT4.out.hb
  dsimp only at i0 i1 i2 i3 x0 x1 x2 x3 y0 y1 y2 y3
  have HV4 := Lib.hid hs4
  clear hs4
  have hs5 := TreeS.cut_kids (m := (q + 1)) HV4.out HT4.out.ha rfl (by show q + 1 ≤ mx.kids.length; rw [HXV.out]; omega)
  go_upto_region 12 with (fail)
  obtain ⟨ns5, hT5, hs5⟩ : ∃ ns5, Tri ns ns5 i a b (⟨.slice (some ⟨ikg, 0, none⟩) mi.keys.length ikc, ivv, .slice (some ⟨idg, 0, none⟩) mi.kids.length idc⟩, { mi with keys := mi.keys.set C xk }) (⟨.slice (some ⟨xkg, 0, none⟩) (q + 1) xkc, xvv, .slice (some ⟨xdg, 0, none⟩) (q + 1) (q + 1)⟩, { mx with kids := mx.kids.take (q + 1) }) (⟨.slice o2 (my.keys.length + 1) c2, yvv, .slice o3 (my.kids.length + 1) c3⟩, { my with keys := insAt my.keys 0 sk, kids := insAt my.kids 0 xd }) ∧ TreeS B D _ t (.slice (some ⟨g, 0, none⟩) N cn) fv ns5 T.free T.k l := ⟨_, HT4.out.set_a _, hs5⟩
  have HT5 := Lib.hid hT5
  clear hT5
  obtain ⟨V5, hV5, hs5⟩ := hs5.hide
  rw [← hV5]
  clear hV5 HV4 i0 i1 i2 i3 nf x0 x1 x2 x3 y0 y1 y2 y3
  obtain ⟨i0, i1, i2, i3, nf⟩ := hs5.node_cells HT5.out.hi
  obtain ⟨x0, x1, x2, x3, _⟩ := hs5.node_cells HT5.out.ha
  obtain ⟨y0, y1, y2, y3, _⟩ := hs5.node_cells HT5.out.hb
  dsimp only at i0 i1 i2 i3 x0 x1 x2 x3 y0 y1 y2 y3
  have HV5 := Lib.hid hs5
  clear hs5
  have hs6 := TreeS.cut_keys (m := q) HV5.out HT5.out.ha rfl (by show q ≤ mx.keys.length; rw [HXL.out]; omega)
  go_wp2_with (fail)
  obtain ⟨ns6, hT6, hs6⟩ : ∃ ns6, Tri ns ns6 i a b (⟨.slice (some ⟨ikg, 0, none⟩) mi.keys.length ikc, ivv, .slice (some ⟨idg, 0, none⟩) mi.kids.length idc⟩, { mi with keys := mi.keys.set C xk }) (⟨.slice (some ⟨xkg, 0, none⟩) q q, xvv, .slice (some ⟨xdg, 0, none⟩) (q + 1) (q + 1)⟩, { mx with kids := mx.kids.take (q + 1), keys := mx.keys.take q }) (⟨.slice o2 (my.keys.length + 1) c2, yvv, .slice o3 (my.kids.length + 1) c3⟩, { my with keys := insAt my.keys 0 sk, kids := insAt my.kids 0 xd }) ∧ TreeS B D _ t (.slice (some ⟨g, 0, none⟩) N cn) fv ns6 T.free T.k l := ⟨_, HT5.out.set_a _, hs6⟩
  have HT6 := Lib.hid hT6
  clear hT6
  go_end0
  exact ⟨rfl, _, _, _, HT6.out.done HNS.out, hs6⟩
end Go.Proofs.Ytcbklkcpjldcjaa
