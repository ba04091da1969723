/- The tree: contract of fromRight, at leaves (printed by genmend.py). -/
import Derived.Test.YtcbklkcpjldcjaaJ19
namespace Go.Proofs.Ytcbklkcpjldcjaa
open Go.ChangeShapes Go.WideShapes Go.ChangeAt Go.RowKit
set_option maxRecDepth 100000
set_option linter.unusedSimpArgs false

set_option maxHeartbeats 8000000 in
theorem fromRight_leaf {B w : World} {D : PH} {t : Nat} {T : TM} {l : List HP} {i C a b q : Nat} {mi mx my : NodeM} {yk sk yk1 : Val} {yd : VT} (hi : T.nodes[i]? = some mi) (hx : T.nodes[a]? = some mx) (hy : T.nodes[b]? = some my) (hia : i ≠ a) (hib : i ≠ b) (hab : a ≠ b) (hca : mi.kids[C]? = some a) (hcb : mi.kids[C + 1]? = some b) (hkC : C < mi.keys.length) (hmb : mi.kids.length ≤ 1000) (hlx : mx.leaf = true) (hyl : my.keys.length = q + 1) (hyv : my.vals.length = q + 1) (hxb : q ≤ 1000) (hxkb : mx.keys.length ≤ 1000) (hxdb : mx.vals.length ≤ 1000)
    (hyk : my.keys[0]? = some yk) (hyd : my.vals[0]? = some yd) (hsk : mi.keys[C]? = some sk) (hyk1 : my.keys[1]? = some yk1) (h : TreeA B D w t T l) :
    Calls Try.prog 81 #[.pointer (some ⟨t, 0, none⟩), .int .i64 i, .int .i64 (C : Int)] w fun e w' => e = .returned (.tuple #[]) ∧
      TreeA B D w' t (T.tri i a b { mi with keys := mi.keys.set C yk1 } { mx with keys := mx.keys ++ [yk], vals := mx.vals ++ [yd] } { my with keys := delAt my.keys 0, vals := delAt my.vals 0 }) l := by
  obtain ⟨nv, fv, ns, hns, hs⟩ := h
  obtain ⟨⟨ikv, ivv, idv⟩, hpi⟩ := get_node hns hi
  obtain ⟨⟨xkv, xvv, xdv⟩, hpx⟩ := get_node hns hx
  obtain ⟨⟨ykv, yvv, ydv⟩, hpy⟩ := get_node hns hy
  have hTr : Tri ns ns i a b _ _ _ := ⟨hpi, hpx, hpy, fun _ _ _ _ => rfl, rfl, hia, hib, hab⟩
  obtain ⟨lt1, lt2, lt3⟩ := hTr.lt
  obtain ⟨g, cn, rfl, _, hcm⟩ := hs.nv_some (by omega)
  unfold maxLen at hcm
  have hclt := (List.getElem?_eq_some_iff.1 hcb).1
  obtain ⟨ikg, ikc, hikv, hikc, _⟩ := some_shape (Sat.own (hs.focus hpi) 0 rfl) (by show 0 < mi.keys.length; omega)
  obtain ⟨idg, idc, hidv, _, _⟩ := some_shape (Sat.own (hs.focus hpi) 2 rfl) (by show 0 < mi.kids.length; omega)
  obtain ⟨ykg, ykc, hykv, hykc, hykc2⟩ := some_shape (Sat.own (hs.focus hpy) 0 rfl) (by show 0 < my.keys.length; omega)
  obtain ⟨ydg, ydc, hyvv, hydc, hydc2⟩ := some_shape (Sat.own (hs.focus hpy) 1 rfl) (by show 0 < my.vals.length; omega)
  obtain ⟨xko, xkc, hxkv⟩ := (hs.focus hpx).own_shape
  obtain ⟨xdo, xdc, hxvv⟩ := (hs.focus hpx).drop.own_shape
  dsimp only at hikv hidv hykv hyvv hxkv hxvv hikc hykc hydc
  rw [hyl] at hykv hykc
  rw [hyv] at hyvv hydc
  subst hikv hidv hykv hyvv hxkv hxvv
  have hq0 : (0 : Int) < (q : Int) + 1 := by omega
  have hq02 : (0 : Int) < (q : Int) + 2 := by omega
  generalize hN : ns.length = N at *
  have hib1 : (i : Int) < (N : Int) := by omega
  have hab1 : (a : Int) < (N : Int) := by omega
  have hbb1 : (b : Int) < (N : Int) := by omega
  have hC1 : (C : Int) < (mi.kids.length : Int) := by omega
  have hC2 : (C : Int) + 1 < (mi.kids.length : Int) := by omega
  have hC3 : (C : Int) < (mi.keys.length : Int) := by omega
  have hwC : IntKind.i64.wrap ((C : Int) + 1 - 1) = (C : Int) := by rw [i64w _ (by omega) (by omega)]; omega
  have hwC0 : IntKind.i64.wrap (C : Int) = (C : Int) := i64w _ (by omega) (by omega)
  have hwq0 : IntKind.i64.wrap (q : Int) = (q : Int) := i64w _ (by omega) (by omega)
  have hwC1 : IntKind.i64.wrap ((C : Int) + 1) = (C : Int) + 1 := i64w _ (by omega) (by omega)
  have hwC2 : IntKind.i64.wrap ((C : Int) + 2) = (C : Int) + 1 + 1 := by rw [i64w _ (by omega) (by omega)]; omega
  have hwq : IntKind.i64.wrap ((q : Int) + 1 - 1) = (q : Int) := by rw [i64w _ (by omega) (by omega)]; omega
  have hwq1 : IntKind.i64.wrap ((q : Int) + 1) = (q : Int) + 1 := i64w _ (by omega) (by omega)
  have hqi : (q : Int) < (q : Int) + 1 := by omega
  have hq01 : 0 ≤ (q : Int) + 1 := by omega
  have hC01 : 0 ≤ (C : Int) + 1 := by omega
  obtain ⟨t0, t1, t2, t3, t4, tf⟩ := hs.tcells
  obtain ⟨i0, i1, i2, i3, nf⟩ := hs.node_cells hTr.hi
  obtain ⟨x0, x1, x2, x3, _⟩ := hs.node_cells hTr.ha
  obtain ⟨y0, y1, y2, y3, _⟩ := hs.node_cells hTr.hb
  have hca1 := ids_cell (hs.kids_rd hpi) hca
  have hcb1 := ids_cell (hs.kids_rd hpi) hcb
  dsimp only at i0 i1 i2 i3 x0 x1 x2 x3 y0 y1 y2 y3 hca1 hcb1
  have HS := Lib.hid hs
  have HT := Lib.hid hTr
  have HNS := Lib.hid hns
  have HLX := Lib.hid hlx
  have HYL := Lib.hid hyl
  have HYV := Lib.hid hyv
  have HYK := Lib.hid hyk
  have HYD := Lib.hid hyd
  have HSK := Lib.hid hsk
  have HYK1 := Lib.hid hyk1
  clear hlx hyl hyv hyk hyd hsk hyk1
  clear hs hTr hns hi hx hy hia hib hab hca hcb hpi hpx hpy hN
  push_cast
  go_enter Try.func81, Try.ntmps81
  go_upto_region 1 with (fail)
  go_quiet (fail)
  have hs1 := HS.out.kept ((Kept.refl (fun _ => False) w).drewN nq)
  obtain ⟨W1, hW1⟩ : ∃ W1, W1 = w.drewN nq := ⟨_, rfl⟩
  rw [← hW1] at hs1 ⊢
  clear hW1 HS t0 t1 t2 t3 t4 tf i0 i1 i2 i3 nf x0 x1 x2 x3 y0 y1 y2 y3 hca1 hcb1
  obtain ⟨i0, i1, i2, i3, nf⟩ := hs1.node_cells HT.out.hi
  obtain ⟨x0, x1, x2, x3, _⟩ := hs1.node_cells HT.out.ha
  obtain ⟨y0, y1, y2, y3, _⟩ := hs1.node_cells HT.out.hb
  dsimp only at i0 i1 i2 i3 x0 x1 x2 x3 y0 y1 y2 y3
  have HS1 := Lib.hid hs1
  clear hs1
  rw [HLX.out] at x0
  have hrk := HS1.out.keys_rd HT.out.hb
  dsimp only at hrk
  rw [HYL.out] at hrk
  obtain ⟨k0, k1, k2⟩ := key_cells hrk HYK.out
  simp only [Nat.zero_add, Nat.zero_mul] at k0 k1 k2
  clear hrk
  go_upto_region 3 with (fail)
  refine wp_region_canon [(0, false, 15), (1, false, 12), (2, false, 12), (3, false, 12), (4, false, 12), (5, false, 11), (6, false, 11), (7, false, 11), (8, false, 11), (9, false, 11), (10, false, 11), (11, true, 0), (12, true, 0), (13, false, 15), (14, false, 15), (15, true, 0)] (by kernel_rfl) (by kernel_rfl) ?_
  iterate 11 (refine wpCan_read rfl rfl (fun K hK => ?_); go_simp; refine hK _ ?_; clear hK K)
  refine wpCan_eff rfl ?_
  refine wpList_plain rfl (fun K hK => ?_)
  go_simp
  refine hK _ _ ?_
  clear hK K
  refine wpList_nil ?_
  have hal := (HS1.out.alloc #[.bool yk.t, .int .i64 yk.n, .string yk.s] tV).drew
  have hrb := one_rd (size := 3) (cs := Val.cells yk) (Sat.blk hal 4 rfl) rfl
  have hal2 := hal.drop
  obtain ⟨W2, hW2, hal2⟩ := hal2.hide
  rw [← hW2] at hrb ⊢
  generalize W1.heap.size = bx2 at hrb ⊢
  clear hal hW2 HS1 k0 k1 k2 i0 i1 i2 i3 nf x0 x1 x2 x3 y0 y1 y2 y3
  obtain ⟨i0, i1, i2, i3, nf⟩ := hal2.node_cells HT.out.hi
  obtain ⟨x0, x1, x2, x3, _⟩ := hal2.node_cells HT.out.ha
  obtain ⟨y0, y1, y2, y3, _⟩ := hal2.node_cells HT.out.hb
  dsimp only at i0 i1 i2 i3 x0 x1 x2 x3 y0 y1 y2 y3
  have hrk := hal2.keys_rd HT.out.hb
  dsimp only at hrk
  rw [HYL.out] at hrk
  obtain ⟨k0, k1, k2⟩ := key_cells hrk HYK.out
  simp only [Nat.zero_add, Nat.zero_mul] at k0 k1 k2
  clear hrk
  have HAL := Lib.hid hal2
  have HRB := Lib.hid hrb
  clear hal2 hrb
  refine And.intro ?_ ?_
  · go_simp
  refine wpCan_eff rfl ?_
  refine wpList_app_keys rfl _ _ rfl (new := [yk]) HAL.out HT.out.ha rfl rfl (by rw [List.flatMap_singleton]; exact HRB.out) (by show mx.keys.length + 1 ≤ 10000; omega) ?_
  intro o2 c2 w2 y1' nf' hs2
  rw [List.length_singleton] at hs2
  obtain ⟨ns2, hT2, hs2⟩ : ∃ ns2, Tri ns ns2 i a b (⟨.slice (some ⟨ikg, 0, none⟩) mi.keys.length ikc, ivv, .slice (some ⟨idg, 0, none⟩) mi.kids.length idc⟩, mi) (⟨.slice o2 (mx.keys.length + 1) c2, .slice xdo mx.vals.length xdc, xdv⟩, { mx with keys := mx.keys ++ [yk] }) (⟨.slice (some ⟨ykg, 0, none⟩) (q + 1) ykc, .slice (some ⟨ydg, 0, none⟩) (q + 1) ydc, ydv⟩, my) ∧ TreeS B D _ t (.slice (some ⟨g, 0, none⟩) N cn) fv ns2 T.free T.k l := ⟨_, HT.out.set_a _, hs2⟩
  have HS2 := Lib.hid hs2
  have HT2 := Lib.hid hT2
  clear hs2 hT2 HAL HRB k0 k1 k2 i0 i1 i2 i3 nf x0 x1 x2 x3 y0 y1 y2 y3
  refine wpList_nil ?_
  refine And.intro ?_ ?_
  · go_simp
  iterate 2 (refine wpCan_read rfl rfl (fun K hK => ?_); go_simp; refine hK _ ?_; clear hK K)
  refine wpCan_eff rfl ?_
  refine wpList_plain rfl (fun K hK => ?_)
  go_simp
  refine hK _ _ ?_
  clear hK K
  refine wpList_nil ?_
  refine And.intro ?_ ?_
  · go_simp
  refine wpCan_nil ?_
  go_upto_region 4 with (fail)
  obtain ⟨V2, hV2, hs2⟩ := HS2.out.hide
  rw [← hV2]
  clear hV2 HS2 y1' nf'
  obtain ⟨i0, i1, i2, i3, nf⟩ := hs2.node_cells HT2.out.hi
  obtain ⟨x0, x1, x2, x3, _⟩ := hs2.node_cells HT2.out.ha
  obtain ⟨y0, y1, y2, y3, _⟩ := hs2.node_cells HT2.out.hb
  dsimp only at i0 i1 i2 i3 x0 x1 x2 x3 y0 y1 y2 y3
  have HV2 := Lib.hid hs2
  clear hs2
  have hrk := HV2.out.vals_rd HT2.out.hb
  dsimp only at hrk
  rw [HYV.out] at hrk
  obtain ⟨v0, v1, v2⟩ := val_cells hrk HYD.out
  simp only [Nat.zero_add, Nat.zero_mul] at v0 v1 v2
  clear hrk
  go_upto_region 4 with (fail)
  refine wp_region_canon [(0, false, 15), (1, false, 12), (2, false, 12), (3, false, 12), (4, false, 12), (5, false, 11), (6, false, 11), (7, false, 11), (8, false, 11), (9, false, 11), (10, false, 11), (11, true, 0), (12, true, 0), (13, false, 15), (14, false, 15), (15, true, 0)] (by kernel_rfl) (by kernel_rfl) ?_
  iterate 11 (refine wpCan_read rfl rfl (fun K hK => ?_); go_simp; refine hK _ ?_; clear hK K)
  refine wpCan_eff rfl ?_
  refine wpList_plain rfl (fun K hK => ?_)
  go_simp
  refine hK _ _ ?_
  clear hK K
  refine wpList_nil ?_
  have hal := (HV2.out.alloc #[.bool yd.kept, .int .i64 yd.num, .slice yd.ro yd.rn yd.rc] tW).drew
  have hrb := one_rd (size := 3) (cs := vcells yd) (Sat.blk hal 4 rfl) rfl
  have hal2 := hal.drop
  obtain ⟨W3, hW3, hal2⟩ := hal2.hide
  rw [← hW3] at hrb ⊢
  generalize V2.heap.size = bx3 at hrb ⊢
  clear hal hW3 HV2 v0 v1 v2 i0 i1 i2 i3 nf x0 x1 x2 x3 y0 y1 y2 y3
  obtain ⟨i0, i1, i2, i3, nf⟩ := hal2.node_cells HT2.out.hi
  obtain ⟨x0, x1, x2, x3, _⟩ := hal2.node_cells HT2.out.ha
  obtain ⟨y0, y1, y2, y3, _⟩ := hal2.node_cells HT2.out.hb
  dsimp only at i0 i1 i2 i3 x0 x1 x2 x3 y0 y1 y2 y3
  have hrk := hal2.vals_rd HT2.out.hb
  dsimp only at hrk
  rw [HYV.out] at hrk
  obtain ⟨v0, v1, v2⟩ := val_cells hrk HYD.out
  simp only [Nat.zero_add, Nat.zero_mul] at v0 v1 v2
  clear hrk
  have HAL := Lib.hid hal2
  have HRB := Lib.hid hrb
  clear hal2 hrb
  refine And.intro ?_ ?_
  · go_simp
  refine wpCan_eff rfl ?_
  refine wpList_app_vals rfl _ _ rfl (new := [yd]) HAL.out HT2.out.ha rfl rfl (by rw [List.flatMap_singleton]; exact HRB.out) (by show mx.vals.length + 1 ≤ 10000; omega) ?_
  intro o3 c3 w3 y1' nf' hs3
  rw [List.length_singleton] at hs3
  obtain ⟨ns3, hT3, hs3⟩ : ∃ ns3, Tri ns ns3 i a b (⟨.slice (some ⟨ikg, 0, none⟩) mi.keys.length ikc, ivv, .slice (some ⟨idg, 0, none⟩) mi.kids.length idc⟩, mi) (⟨.slice o2 (mx.keys.length + 1) c2, .slice o3 (mx.vals.length + 1) c3, xdv⟩, { mx with keys := mx.keys ++ [yk], vals := mx.vals ++ [yd] }) (⟨.slice (some ⟨ykg, 0, none⟩) (q + 1) ykc, .slice (some ⟨ydg, 0, none⟩) (q + 1) ydc, ydv⟩, my) ∧ TreeS B D _ t (.slice (some ⟨g, 0, none⟩) N cn) fv ns3 T.free T.k l := ⟨_, HT2.out.set_a _, hs3⟩
  have HS3 := Lib.hid hs3
  have HT3 := Lib.hid hT3
  clear hs3 hT3 HAL HRB v0 v1 v2 i0 i1 i2 i3 nf x0 x1 x2 x3 y0 y1 y2 y3
  refine wpList_nil ?_
  refine And.intro ?_ ?_
  · go_simp
  iterate 2 (refine wpCan_read rfl rfl (fun K hK => ?_); go_simp; refine hK _ ?_; clear hK K)
  refine wpCan_eff rfl ?_
  refine wpList_plain rfl (fun K hK => ?_)
  go_simp
  refine hK _ _ ?_
  clear hK K
  refine wpList_nil ?_
  refine And.intro ?_ ?_
  · go_simp
  refine wpCan_nil ?_
  go_upto_region 5 with (fail)
  obtain ⟨V3, hV3, hs3⟩ := HS3.out.hide
  rw [← hV3]
  clear hV3 HS3 y1' nf'
  obtain ⟨i0, i1, i2, i3, nf⟩ := hs3.node_cells HT3.out.hi
  obtain ⟨x0, x1, x2, x3, _⟩ := hs3.node_cells HT3.out.ha
  obtain ⟨y0, y1, y2, y3, _⟩ := hs3.node_cells HT3.out.hb
  dsimp only at i0 i1 i2 i3 x0 x1 x2 x3 y0 y1 y2 y3
  have HV3 := Lib.hid hs3
  clear hs3
  go_upto_region 6 with ((go_at_call 68; refine (TreeS.del_vals (q := 0) (n := q) HV3.out HT3.out.hb HYV.out (Nat.zero_le _)).mono ?_; rintro e4 w4 ⟨o4, c4, rfl, y1', nf', hs4⟩; have HD4 := Lib.hid hs4; clear hs4 i0 i1 i2 i3 nf x0 x1 x2 x3 y0 y1 y2 y3))
  obtain ⟨ns4, hT4, hs4⟩ : ∃ ns4, Tri ns ns4 i a b (⟨.slice (some ⟨ikg, 0, none⟩) mi.keys.length ikc, ivv, .slice (some ⟨idg, 0, none⟩) mi.kids.length idc⟩, mi) (⟨.slice o2 (mx.keys.length + 1) c2, .slice o3 (mx.vals.length + 1) c3, xdv⟩, { mx with keys := mx.keys ++ [yk], vals := mx.vals ++ [yd] }) (⟨.slice (some ⟨ykg, 0, none⟩) (q + 1) ykc, .slice o4 q c4, ydv⟩, { my with vals := delAt my.vals 0 }) ∧ TreeS B D _ t (.slice (some ⟨g, 0, none⟩) N cn) fv ns4 T.free T.k l := ⟨_, HT3.out.set_b _, HD4.out⟩
  have HT4 := Lib.hid hT4
  clear hT4
  obtain ⟨V4, hV4, hs4⟩ := hs4.hide
  rw [← hV4]
  clear hV4 HV3 HD4 y1' nf'
  obtain ⟨i0, i1, i2, i3, nf⟩ := hs4.node_cells HT4.out.hi
  obtain ⟨x0, x1, x2, x3, _⟩ := hs4.node_cells HT4.out.ha
  obtain ⟨y0, y1, y2, y3, _⟩ := hs4.node_cells HT4.out.hb
  dsimp only at i0 i1 i2 i3 x0 x1 x2 x3 y0 y1 y2 y3
  have HV4 := Lib.hid hs4
  clear hs4
  go_upto_region 7 with ((go_at_call 67; refine (TreeS.del_keys (q := 0) (n := q) HV4.out HT4.out.hb HYL.out (Nat.zero_le _)).mono ?_; rintro e5 w5 ⟨o5, c5, rfl, y1', nf', hs5⟩; have HD5 := Lib.hid hs5; clear hs5 i0 i1 i2 i3 nf x0 x1 x2 x3 y0 y1 y2 y3))
  obtain ⟨ns5, hT5, hs5⟩ : ∃ ns5, Tri ns ns5 i a b (⟨.slice (some ⟨ikg, 0, none⟩) mi.keys.length ikc, ivv, .slice (some ⟨idg, 0, none⟩) mi.kids.length idc⟩, mi) (⟨.slice o2 (mx.keys.length + 1) c2, .slice o3 (mx.vals.length + 1) c3, xdv⟩, { mx with keys := mx.keys ++ [yk], vals := mx.vals ++ [yd] }) (⟨.slice o5 q c5, .slice o4 q c4, ydv⟩, { my with vals := delAt my.vals 0, keys := delAt my.keys 0 }) ∧ TreeS B D _ t (.slice (some ⟨g, 0, none⟩) N cn) fv ns5 T.free T.k l := ⟨_, HT4.out.set_b _, HD5.out⟩
  have HT5 := Lib.hid hT5
  clear hT5
  obtain ⟨V5, hV5, hs5⟩ := hs5.hide
  rw [← hV5]
  clear hV5 HV4 HD5 y1' nf'
  obtain ⟨i0, i1, i2, i3, nf⟩ := hs5.node_cells HT5.out.hi
  obtain ⟨x0, x1, x2, x3, _⟩ := hs5.node_cells HT5.out.ha
  obtain ⟨y0, y1, y2, y3, _⟩ := hs5.node_cells HT5.out.hb
  dsimp only at i0 i1 i2 i3 x0 x1 x2 x3 y0 y1 y2 y3
  have HV5 := Lib.hid hs5
  clear hs5
  have hdl : (delAt my.keys 0).length = q := by have := delAt_len my.keys 0 (by rw [HYL.out]; omega); rw [HYL.out] at this; omega
  have hqq : 0 < q := by have := (List.getElem?_eq_some_iff.1 HYK1.out).1; rw [HYL.out] at this; omega
  have hd0 : (delAt my.keys 0)[0]? = some yk1 := by unfold delAt; simp; exact HYK1.out
  obtain ⟨zkg, zkc, hzk, _, _⟩ := some_shape (Sat.own (HV5.out.focus HT5.out.hb) 0 rfl) (by show 0 < (delAt my.keys 0).length; omega)
  dsimp only at hzk
  rw [hdl] at hzk
  rw [Value.slice.injEq] at hzk
  obtain ⟨rfl, -, rfl⟩ := hzk
  have HDL := Lib.hid hdl
  have HD0 := Lib.hid hd0
  have hqq0 : (0 : Int) < (q : Int) := by omega
  clear hdl hd0
  have hro := Sat.own (HV5.out.focus HT5.out.hi) 0 rfl
  dsimp only at hro
  obtain ⟨_, _, hrr⟩ := hro.row
  have pf := hrr.frozen
  clear hro hrr
  have hrk := HV5.out.keys_rd HT5.out.hb
  dsimp only at hrk
  rw [HDL.out] at hrk
  obtain ⟨k0, k1, k2⟩ := key_cells hrk HD0.out
  simp only [Nat.zero_add, Nat.zero_mul] at k0 k1 k2
  clear hrk
  have hrk := HV5.out.keys_rd HT5.out.hi
  dsimp only at hrk

  obtain ⟨j0, j1, j2⟩ := key_cells hrk HSK.out
  simp only [Nat.zero_add, Nat.zero_mul] at j0 j1 j2
  clear hrk
  go_upto_region 7 with (fail)
  have hs6 := (HV5.out.key_set HT5.out.hi rfl C yk1 (by show C < mi.keys.length; omega)).drew
  obtain ⟨ns6, hT6, hs6⟩ : ∃ ns6, Tri ns ns6 i a b (⟨.slice (some ⟨ikg, 0, none⟩) mi.keys.length ikc, ivv, .slice (some ⟨idg, 0, none⟩) mi.kids.length idc⟩, { mi with keys := mi.keys.set C yk1 }) (⟨.slice o2 (mx.keys.length + 1) c2, .slice o3 (mx.vals.length + 1) c3, xdv⟩, { mx with keys := mx.keys ++ [yk], vals := mx.vals ++ [yd] }) (⟨.slice (some ⟨zkg, 0, none⟩) q c5, .slice o4 q c4, ydv⟩, { my with vals := delAt my.vals 0, keys := delAt my.keys 0 }) ∧ TreeS B D _ t (.slice (some ⟨g, 0, none⟩) N cn) fv ns6 T.free T.k l := ⟨_, HT5.out.set_i _, hs6⟩
  have HS6 := Lib.hid hs6
  have HT6 := Lib.hid hT6
  clear hs6 hT6
  refine wp_region_canon [(0, false, 12), (1, false, 12), (2, false, 12), (3, false, 12), (4, false, 12), (5, false, 12), (6, false, 12), (7, false, 12), (8, false, 12), (9, false, 12), (10, false, 12), (11, false, 12), (12, true, 0)] (by kernel_rfl) (by kernel_rfl) ?_
  iterate 12 (refine wpCan_read rfl rfl (fun K hK => ?_); go_simp; refine hK _ ?_; clear hK K)
  refine wpCan_eff rfl ?_
  refine wpList_plain rfl (fun K hK => ?_)
  go_simp
  refine hK _ _ ?_
  clear hK K
  refine wpList_nil ?_
  refine And.intro ?_ ?_
  · go_simp
  refine wpCan_nil ?_
  clear HV5 k0 k1 k2 j0 j1 j2 pf i0 i1 i2 i3 nf x0 x1 x2 x3 y0 y1 y2 y3
  go_wp2_with (fail)
  refine bodyPost_ret (results_none rfl _ _ _) rfl ?_
  exact ⟨rfl, _, _, _, HT6.out.done HNS.out, HS6.out⟩
end Go.Proofs.Ytcbklkcpjldcjaa
