/- The tree: Delete, where a key is taken away (printed by gendel.py). -/
import Derived.Test.YtcbklkcpjldcjaaJ16
namespace Go.Proofs.Ytcbklkcpjldcjaa
open Go.ChangeShapes Go.WideShapes Go.ChangeAt Go.RowKit
set_option maxRecDepth 100000
set_option linter.unusedSimpArgs false

set_option maxHeartbeats 4000000 in
theorem Delete_last {B w : World} {D : PH} {t r : Nat} {T T1 : TM} {l : List HP} {k : Val} {m : NodeM} (hr : valRight k = true) (hrem : ∀ (w : World) (l : List HP), TreeA B D w t T l → Calls Try.prog 53 #[.pointer (some ⟨t, 0, none⟩), .int .i64 r, k.v] w fun e w' => e = .returned (.bool true) ∧ TreeA B D w' t T1 l)
    (hroot : T.k.root = (r : Int)) (hk1 : T1.k = T.k) (hfit : T.k.fit) (hm : T1.nodes[r]? = some m) (hbig : T1.nodes.length ≤ 1000000) (hfb : T1.free.length ≤ 1000000) (hl : m.leaf = true) (hz : T.k.many = 1) (h : TreeA B D w t T l) :
    Calls Try.prog 38 #[.pointer (some ⟨t, 0, none⟩), k.v] w fun e w' => e = .returned (.bool true) ∧ TreeA B D w' t (T1.drop1 (-1) r) l := by
  obtain ⟨nv, fv, ns, hns, hs⟩ := h
  obtain ⟨f1, f2, f3, f4⟩ := hfit
  have HS1 := Lib.hid (hs.alloc #[.bool k.t, .int .i64 k.n, .string k.s] tV)
  have HNS := Lib.hid hns
  have HRT := Lib.hid hroot
  have HR := Lib.hid hr
  have HREM := Lib.hid hrem
  have HM := Lib.hid hm
  have HK1 := Lib.hid hk1
  have HBIG := Lib.hid (And.intro hbig hfb)
  have hr0 : ¬ ((r : Int) < 0) := by omega
  have hw1 : IntKind.i64.wrap (T.k.many - 1) = T.k.many - 1 := i64w _ (by omega) (by omega)
  have hw2 : IntKind.i64.wrap (T.k.depth - 1) = T.k.depth - 1 := i64w _ (by omega) (by omega)
  have HW1 := Lib.hid hw1
  have HW2 := Lib.hid hw2
  have HL := Lib.hid hl
  have HZ := Lib.hid hz
  clear hl hz
  clear hs hns hroot hr hrem hm hk1 hw1 hw2
  dsimp only [Val.v]
  go_enter Try.func38, Try.ntmps38
  go_upto_region 1 with (fail)
  obtain ⟨W, hW, hs2⟩ := HS1.out.hide
  rw [← hW]
  clear HS1 hW
  generalize w.heap.size = bk at hs2 ⊢
  obtain ⟨t0, t1, t2, t3, t4, tf⟩ := hs2.tcells
  obtain ⟨x0, x1, x2, xf⟩ := cells3 (Sat.blk hs2 4 rfl)
  rw [HRT.out] at t2
  have HS2 := Lib.hid hs2
  clear hs2
  refine wp_region_canon [(0, false, 11), (1, false, 11), (2, false, 11), (3, false, 11), (4, false, 11), (5, false, 11), (6, false, 11), (7, false, 11), (8, false, 11), (9, false, 11), (10, false, 11), (11, true, 0), (12, false, 21), (13, false, 21), (14, false, 21), (15, false, 21), (16, false, 21), (17, false, 21), (18, false, 21), (19, false, 21), (20, false, 21), (21, true, 0), (22, false, 999), (23, false, 999)] (by kernel_rfl) (by kernel_rfl) ?_
  iterate 3 (refine wpCan_read rfl rfl (fun K hK => ?_); go_simp; refine hK _ ?_; clear hK K)
  first | (refine wpCan_no rfl rfl ?_; simp only [Act.put, List.setIfInBounds_toArray, List.set_cons_succ, List.set_cons_zero, List.getElem_toArray, List.getElem_cons_succ, List.getElem_cons_zero]) | (refine wpCan_yes rfl rfl (fun K hK => ?_); go_simp; refine hK _ ?_; clear hK K)
  first | (refine wpCan_no rfl rfl ?_; simp only [Act.put, List.setIfInBounds_toArray, List.set_cons_succ, List.set_cons_zero, List.getElem_toArray, List.getElem_cons_succ, List.getElem_cons_zero]) | (refine wpCan_yes rfl rfl (fun K hK => ?_); go_simp; refine hK _ ?_; clear hK K)
  first | (refine wpCan_no rfl rfl ?_; simp only [Act.put, List.setIfInBounds_toArray, List.set_cons_succ, List.set_cons_zero, List.getElem_toArray, List.getElem_cons_succ, List.getElem_cons_zero]) | (refine wpCan_yes rfl rfl (fun K hK => ?_); go_simp; refine hK _ ?_; clear hK K)
  first | (refine wpCan_no rfl rfl ?_; simp only [Act.put, List.setIfInBounds_toArray, List.set_cons_succ, List.set_cons_zero, List.getElem_toArray, List.getElem_cons_succ, List.getElem_cons_zero]) | (refine wpCan_yes rfl rfl (fun K hK => ?_); go_simp; refine hK _ ?_; clear hK K)
  first | (refine wpCan_no rfl rfl ?_; simp only [Act.put, List.setIfInBounds_toArray, List.set_cons_succ, List.set_cons_zero, List.getElem_toArray, List.getElem_cons_succ, List.getElem_cons_zero]) | (refine wpCan_yes rfl rfl (fun K hK => ?_); go_simp; refine hK _ ?_; clear hK K)
  iterate 2 (refine wpCan_read rfl rfl (fun K hK => ?_); go_simp; refine hK _ ?_; clear hK K)
  first | (refine wpCan_no rfl rfl ?_; simp only [Act.put, List.setIfInBounds_toArray, List.set_cons_succ, List.set_cons_zero, List.getElem_toArray, List.getElem_cons_succ, List.getElem_cons_zero]) | (refine wpCan_yes rfl rfl (fun K hK => ?_); go_simp; refine hK _ ?_; clear hK K)
  refine wpCan_eff rfl ?_
  refine wpList_do rfl (fun K hK => ?_)
  go_simp
  refine (right_ok k _).mono ?_
  rw [HR.out]
  rintro e1 w1 ⟨rfl, hk1⟩
  have HS3 := Lib.hid ((HS2.out.drew).kept hk1)
  clear hk1 HS2 x0 x1 x2 xf t0 t1 t2 t3 t4 tf
  obtain ⟨t0, t1, t2, t3, t4, tf⟩ := HS3.out.tcells
  obtain ⟨x0, x1, x2, xf⟩ := cells3 (Sat.blk HS3.out 4 rfl)
  rw [HRT.out] at t2
  have HRM := Lib.hid (HREM.out w1 _ ⟨_, _, _, HNS.out, HS3.out⟩)
  refine hK _ _ ?_
  clear hK K
  refine wpList_nil ?_
  refine And.intro ?_ ?_
  · go_simp
  first | (refine wpCan_no rfl rfl ?_; simp only [Act.put, List.setIfInBounds_toArray, List.set_cons_succ, List.set_cons_zero, List.getElem_toArray, List.getElem_cons_succ, List.getElem_cons_zero]) | (refine wpCan_yes rfl rfl (fun K hK => ?_); go_simp; refine hK _ ?_; clear hK K)
  iterate 2 (refine wpCan_read rfl rfl (fun K hK => ?_); go_simp; refine hK _ ?_; clear hK K)
  first | (refine wpCan_no rfl rfl ?_; simp only [Act.put, List.setIfInBounds_toArray, List.set_cons_succ, List.set_cons_zero, List.getElem_toArray, List.getElem_cons_succ, List.getElem_cons_zero]) | (refine wpCan_yes rfl rfl (fun K hK => ?_); go_simp; refine hK _ ?_; clear hK K)
  first | (refine wpCan_no rfl rfl ?_; simp only [Act.put, List.setIfInBounds_toArray, List.set_cons_succ, List.set_cons_zero, List.getElem_toArray, List.getElem_cons_succ, List.getElem_cons_zero]) | (refine wpCan_yes rfl rfl (fun K hK => ?_); go_simp; refine hK _ ?_; clear hK K)
  first | (refine wpCan_no rfl rfl ?_; simp only [Act.put, List.setIfInBounds_toArray, List.set_cons_succ, List.set_cons_zero, List.getElem_toArray, List.getElem_cons_succ, List.getElem_cons_zero]) | (refine wpCan_yes rfl rfl (fun K hK => ?_); go_simp; refine hK _ ?_; clear hK K)
  first | (refine wpCan_no rfl rfl ?_; simp only [Act.put, List.setIfInBounds_toArray, List.set_cons_succ, List.set_cons_zero, List.getElem_toArray, List.getElem_cons_succ, List.getElem_cons_zero]) | (refine wpCan_yes rfl rfl (fun K hK => ?_); go_simp; refine hK _ ?_; clear hK K)
  first | (refine wpCan_no rfl rfl ?_; simp only [Act.put, List.setIfInBounds_toArray, List.set_cons_succ, List.set_cons_zero, List.getElem_toArray, List.getElem_cons_succ, List.getElem_cons_zero]) | (refine wpCan_yes rfl rfl (fun K hK => ?_); go_simp; refine hK _ ?_; clear hK K)
  first | (refine wpCan_no rfl rfl ?_; simp only [Act.put, List.setIfInBounds_toArray, List.set_cons_succ, List.set_cons_zero, List.getElem_toArray, List.getElem_cons_succ, List.getElem_cons_zero]) | (refine wpCan_yes rfl rfl (fun K hK => ?_); go_simp; refine hK _ ?_; clear hK K)
  refine wpCan_eff rfl ?_
  refine wpList_do rfl (fun K hK => ?_)
  go_simp
  refine HRM.out.mono ?_
  rintro e2 w2 ⟨rfl, nv2, fv2, ns2, hns2, hs2⟩
  rw [HK1.out] at hs2
  have HS4 := Lib.hid hs2
  have HNS2 := Lib.hid hns2
  clear hns2 x0 x1 x2 xf t0 t1 t2 t3 t4 tf
  obtain ⟨t0, t1, t2, t3, t4, tf⟩ := hs2.tcells
  obtain ⟨x0, x1, x2, xf⟩ := cells3 (Sat.blk hs2 4 rfl)
  rw [HRT.out] at t2
  clear hs2
  refine hK _ _ ?_
  clear hK K
  refine wpList_nil ?_
  refine And.intro ?_ ?_
  · go_simp
  first | (refine wpCan_no rfl rfl ?_; simp only [Act.put, List.setIfInBounds_toArray, List.set_cons_succ, List.set_cons_zero, List.getElem_toArray, List.getElem_cons_succ, List.getElem_cons_zero]) | (refine wpCan_yes rfl rfl (fun K hK => ?_); go_simp; refine hK _ ?_; clear hK K)
  iterate 1 (refine wpCan_read rfl rfl (fun K hK => ?_); go_simp; refine hK _ ?_; clear hK K)
  refine wpCan_nil ?_
  obtain ⟨⟨kv, vv, dv⟩, hp⟩ := get_node HNS2.out HM.out
  have hlt := (List.getElem?_eq_some_iff.1 hp).1
  have hib : (r : Int) < (ns2.length : Int) := by omega
  have HP := Lib.hid hp
  obtain ⟨g, c, rfl, _, hcm⟩ := HS4.out.nv_some (by omega)
  unfold maxLen at hcm
  clear hp
  have hw1 := HW1.out
  go_upto_region 4 with (fail)
  obtain ⟨W5, hW5, hs5⟩ := (HS4.out.set_many (T.k.many - 1)).hide
  rw [← hW5]
  clear hW5 HS4 t0 t1 t2 t3 t4 tf x0 x1 x2 xf hw1
  obtain ⟨t0, t1, t2, t3, t4, tf⟩ := hs5.tcells
  obtain ⟨n0, n1, n2, n3, nf⟩ := hs5.node_cells HP.out
  dsimp only at n0 n1 n2 n3 t2 t3 t4
  rw [HRT.out] at t2
  rw [HL.out] at n0
  have hz0 : T.k.many - 1 = 0 := by have := HZ.out; omega
  have HS5 := Lib.hid hs5
  clear hs5
  go_upto_region 10 with (fail)
  obtain ⟨W6, hW6, hs6⟩ := (HS5.out.set_root (-1)).hide
  rw [← hW6]
  clear hW6 HS5 t0 t1 t2 t3 t4 tf n0 n1 n2 n3 nf
  have HG := Lib.hid (give_ok (B := B) (D := D) (t := t) (T := { T1 with k := { root := (-1), many := T.k.many - 1, depth := T.k.depth } }) (i := r) (List.getElem?_eq_some_iff.1 HM.out).1 HBIG.out.1 HBIG.out.2 ⟨_, _, _, HNS2.out, hs6⟩)
  clear hs6
  go_upto_region 11 with ((go_at_call 54; refine HG.out.mono ?_; rintro e7 w7 ⟨rfl, nv7, fv7, ns7, hns7, hs7⟩; obtain ⟨t0, t1, t2, t3, t4, tf⟩ := hs7.tcells; have HS7 := Lib.hid hs7; have HNS7 := Lib.hid hns7; clear hs7 hns7; dsimp only [TM.give] at t4))
  have hw2 := HW2.out
  go_wp2_with (fail)
  go_ret
  refine ⟨rfl, nv7, fv7, ns7, HNS7.out, ?_⟩
  rw [show (T1.drop1 (-1) r).k = ({ root := -1, many := T.k.many - 1, depth := T.k.depth - 1 } : Num) by unfold TM.drop1; rw [HK1.out]]
  exact (HS7.out.set_depth (T.k.depth - 1)).drop

set_option maxHeartbeats 4000000 in
theorem Delete_one {B w : World} {D : PH} {t r : Nat} {T T1 : TM} {l : List HP} {k : Val} {m : NodeM} (hr : valRight k = true) (hrem : ∀ (w : World) (l : List HP), TreeA B D w t T l → Calls Try.prog 53 #[.pointer (some ⟨t, 0, none⟩), .int .i64 r, k.v] w fun e w' => e = .returned (.bool true) ∧ TreeA B D w' t T1 l)
    (hroot : T.k.root = (r : Int)) (hk1 : T1.k = T.k) (hfit : T.k.fit) (hm : T1.nodes[r]? = some m) (hbig : T1.nodes.length ≤ 1000000) (hfb : T1.free.length ≤ 1000000) {c0 : Nat} (hl : m.leaf = false) (hz : m.kids = [c0]) (h : TreeA B D w t T l) :
    Calls Try.prog 38 #[.pointer (some ⟨t, 0, none⟩), k.v] w fun e w' => e = .returned (.bool true) ∧ TreeA B D w' t (T1.drop1 (c0 : Int) r) l := by
  obtain ⟨nv, fv, ns, hns, hs⟩ := h
  obtain ⟨f1, f2, f3, f4⟩ := hfit
  have HS1 := Lib.hid (hs.alloc #[.bool k.t, .int .i64 k.n, .string k.s] tV)
  have HNS := Lib.hid hns
  have HRT := Lib.hid hroot
  have HR := Lib.hid hr
  have HREM := Lib.hid hrem
  have HM := Lib.hid hm
  have HK1 := Lib.hid hk1
  have HBIG := Lib.hid (And.intro hbig hfb)
  have hr0 : ¬ ((r : Int) < 0) := by omega
  have hw1 : IntKind.i64.wrap (T.k.many - 1) = T.k.many - 1 := i64w _ (by omega) (by omega)
  have hw2 : IntKind.i64.wrap (T.k.depth - 1) = T.k.depth - 1 := i64w _ (by omega) (by omega)
  have HW1 := Lib.hid hw1
  have HW2 := Lib.hid hw2
  have HL := Lib.hid hl
  have HZ := Lib.hid hz
  clear hl hz
  clear hs hns hroot hr hrem hm hk1 hw1 hw2
  dsimp only [Val.v]
  go_enter Try.func38, Try.ntmps38
  go_upto_region 1 with (fail)
  obtain ⟨W, hW, hs2⟩ := HS1.out.hide
  rw [← hW]
  clear HS1 hW
  generalize w.heap.size = bk at hs2 ⊢
  obtain ⟨t0, t1, t2, t3, t4, tf⟩ := hs2.tcells
  obtain ⟨x0, x1, x2, xf⟩ := cells3 (Sat.blk hs2 4 rfl)
  rw [HRT.out] at t2
  have HS2 := Lib.hid hs2
  clear hs2
  refine wp_region_canon [(0, false, 11), (1, false, 11), (2, false, 11), (3, false, 11), (4, false, 11), (5, false, 11), (6, false, 11), (7, false, 11), (8, false, 11), (9, false, 11), (10, false, 11), (11, true, 0), (12, false, 21), (13, false, 21), (14, false, 21), (15, false, 21), (16, false, 21), (17, false, 21), (18, false, 21), (19, false, 21), (20, false, 21), (21, true, 0), (22, false, 999), (23, false, 999)] (by kernel_rfl) (by kernel_rfl) ?_
  iterate 3 (refine wpCan_read rfl rfl (fun K hK => ?_); go_simp; refine hK _ ?_; clear hK K)
  first | (refine wpCan_no rfl rfl ?_; simp only [Act.put, List.setIfInBounds_toArray, List.set_cons_succ, List.set_cons_zero, List.getElem_toArray, List.getElem_cons_succ, List.getElem_cons_zero]) | (refine wpCan_yes rfl rfl (fun K hK => ?_); go_simp; refine hK _ ?_; clear hK K)
  first | (refine wpCan_no rfl rfl ?_; simp only [Act.put, List.setIfInBounds_toArray, List.set_cons_succ, List.set_cons_zero, List.getElem_toArray, List.getElem_cons_succ, List.getElem_cons_zero]) | (refine wpCan_yes rfl rfl (fun K hK => ?_); go_simp; refine hK _ ?_; clear hK K)
  first | (refine wpCan_no rfl rfl ?_; simp only [Act.put, List.setIfInBounds_toArray, List.set_cons_succ, List.set_cons_zero, List.getElem_toArray, List.getElem_cons_succ, List.getElem_cons_zero]) | (refine wpCan_yes rfl rfl (fun K hK => ?_); go_simp; refine hK _ ?_; clear hK K)
  first | (refine wpCan_no rfl rfl ?_; simp only [Act.put, List.setIfInBounds_toArray, List.set_cons_succ, List.set_cons_zero, List.getElem_toArray, List.getElem_cons_succ, List.getElem_cons_zero]) | (refine wpCan_yes rfl rfl (fun K hK => ?_); go_simp; refine hK _ ?_; clear hK K)
  first | (refine wpCan_no rfl rfl ?_; simp only [Act.put, List.setIfInBounds_toArray, List.set_cons_succ, List.set_cons_zero, List.getElem_toArray, List.getElem_cons_succ, List.getElem_cons_zero]) | (refine wpCan_yes rfl rfl (fun K hK => ?_); go_simp; refine hK _ ?_; clear hK K)
  iterate 2 (refine wpCan_read rfl rfl (fun K hK => ?_); go_simp; refine hK _ ?_; clear hK K)
  first | (refine wpCan_no rfl rfl ?_; simp only [Act.put, List.setIfInBounds_toArray, List.set_cons_succ, List.set_cons_zero, List.getElem_toArray, List.getElem_cons_succ, List.getElem_cons_zero]) | (refine wpCan_yes rfl rfl (fun K hK => ?_); go_simp; refine hK _ ?_; clear hK K)
  refine wpCan_eff rfl ?_
  refine wpList_do rfl (fun K hK => ?_)
  go_simp
  refine (right_ok k _).mono ?_
  rw [HR.out]
  rintro e1 w1 ⟨rfl, hk1⟩
  have HS3 := Lib.hid ((HS2.out.drew).kept hk1)
  clear hk1 HS2 x0 x1 x2 xf t0 t1 t2 t3 t4 tf
  obtain ⟨t0, t1, t2, t3, t4, tf⟩ := HS3.out.tcells
  obtain ⟨x0, x1, x2, xf⟩ := cells3 (Sat.blk HS3.out 4 rfl)
  rw [HRT.out] at t2
  have HRM := Lib.hid (HREM.out w1 _ ⟨_, _, _, HNS.out, HS3.out⟩)
  refine hK _ _ ?_
  clear hK K
  refine wpList_nil ?_
  refine And.intro ?_ ?_
  · go_simp
  first | (refine wpCan_no rfl rfl ?_; simp only [Act.put, List.setIfInBounds_toArray, List.set_cons_succ, List.set_cons_zero, List.getElem_toArray, List.getElem_cons_succ, List.getElem_cons_zero]) | (refine wpCan_yes rfl rfl (fun K hK => ?_); go_simp; refine hK _ ?_; clear hK K)
  iterate 2 (refine wpCan_read rfl rfl (fun K hK => ?_); go_simp; refine hK _ ?_; clear hK K)
  first | (refine wpCan_no rfl rfl ?_; simp only [Act.put, List.setIfInBounds_toArray, List.set_cons_succ, List.set_cons_zero, List.getElem_toArray, List.getElem_cons_succ, List.getElem_cons_zero]) | (refine wpCan_yes rfl rfl (fun K hK => ?_); go_simp; refine hK _ ?_; clear hK K)
  first | (refine wpCan_no rfl rfl ?_; simp only [Act.put, List.setIfInBounds_toArray, List.set_cons_succ, List.set_cons_zero, List.getElem_toArray, List.getElem_cons_succ, List.getElem_cons_zero]) | (refine wpCan_yes rfl rfl (fun K hK => ?_); go_simp; refine hK _ ?_; clear hK K)
  first | (refine wpCan_no rfl rfl ?_; simp only [Act.put, List.setIfInBounds_toArray, List.set_cons_succ, List.set_cons_zero, List.getElem_toArray, List.getElem_cons_succ, List.getElem_cons_zero]) | (refine wpCan_yes rfl rfl (fun K hK => ?_); go_simp; refine hK _ ?_; clear hK K)
  first | (refine wpCan_no rfl rfl ?_; simp only [Act.put, List.setIfInBounds_toArray, List.set_cons_succ, List.set_cons_zero, List.getElem_toArray, List.getElem_cons_succ, List.getElem_cons_zero]) | (refine wpCan_yes rfl rfl (fun K hK => ?_); go_simp; refine hK _ ?_; clear hK K)
  first | (refine wpCan_no rfl rfl ?_; simp only [Act.put, List.setIfInBounds_toArray, List.set_cons_succ, List.set_cons_zero, List.getElem_toArray, List.getElem_cons_succ, List.getElem_cons_zero]) | (refine wpCan_yes rfl rfl (fun K hK => ?_); go_simp; refine hK _ ?_; clear hK K)
  first | (refine wpCan_no rfl rfl ?_; simp only [Act.put, List.setIfInBounds_toArray, List.set_cons_succ, List.set_cons_zero, List.getElem_toArray, List.getElem_cons_succ, List.getElem_cons_zero]) | (refine wpCan_yes rfl rfl (fun K hK => ?_); go_simp; refine hK _ ?_; clear hK K)
  refine wpCan_eff rfl ?_
  refine wpList_do rfl (fun K hK => ?_)
  go_simp
  refine HRM.out.mono ?_
  rintro e2 w2 ⟨rfl, nv2, fv2, ns2, hns2, hs2⟩
  rw [HK1.out] at hs2
  have HS4 := Lib.hid hs2
  have HNS2 := Lib.hid hns2
  clear hns2 x0 x1 x2 xf t0 t1 t2 t3 t4 tf
  obtain ⟨t0, t1, t2, t3, t4, tf⟩ := hs2.tcells
  obtain ⟨x0, x1, x2, xf⟩ := cells3 (Sat.blk hs2 4 rfl)
  rw [HRT.out] at t2
  clear hs2
  refine hK _ _ ?_
  clear hK K
  refine wpList_nil ?_
  refine And.intro ?_ ?_
  · go_simp
  first | (refine wpCan_no rfl rfl ?_; simp only [Act.put, List.setIfInBounds_toArray, List.set_cons_succ, List.set_cons_zero, List.getElem_toArray, List.getElem_cons_succ, List.getElem_cons_zero]) | (refine wpCan_yes rfl rfl (fun K hK => ?_); go_simp; refine hK _ ?_; clear hK K)
  iterate 1 (refine wpCan_read rfl rfl (fun K hK => ?_); go_simp; refine hK _ ?_; clear hK K)
  refine wpCan_nil ?_
  obtain ⟨⟨kv, vv, dv⟩, hp⟩ := get_node HNS2.out HM.out
  have hlt := (List.getElem?_eq_some_iff.1 hp).1
  have hib : (r : Int) < (ns2.length : Int) := by omega
  have HP := Lib.hid hp
  obtain ⟨g, c, rfl, _, hcm⟩ := HS4.out.nv_some (by omega)
  unfold maxLen at hcm
  clear hp
  have hw1 := HW1.out
  go_upto_region 4 with (fail)
  obtain ⟨W5, hW5, hs5⟩ := (HS4.out.set_many (T.k.many - 1)).hide
  rw [← hW5]
  clear hW5 HS4 t0 t1 t2 t3 t4 tf x0 x1 x2 xf hw1
  obtain ⟨t0, t1, t2, t3, t4, tf⟩ := hs5.tcells
  obtain ⟨n0, n1, n2, n3, nf⟩ := hs5.node_cells HP.out
  dsimp only at n0 n1 n2 n3 t2 t3 t4
  rw [HRT.out] at t2
  rw [HL.out] at n0
  obtain ⟨dg, dc, hdv, hdc1, hdc2⟩ := some_shape (Sat.own (hs5.focus HP.out) 2 rfl) (by show 0 < m.kids.length; rw [HZ.out]; simp)
  dsimp only at hdv
  rw [HZ.out] at hdv
  subst hdv
  have hkr := hs5.kids_rd HP.out
  dsimp only at hkr
  have hcell := ids_cell (by rw [HZ.out] at hkr; rw [HZ.out]; exact hkr) (show m.kids[0]? = some c0 by rw [HZ.out]; rfl)
  clear hkr
  have HS5 := Lib.hid hs5
  clear hs5
  go_upto_region 10 with (fail)
  obtain ⟨W6, hW6, hs6⟩ := (HS5.out.set_root (c0 : Int)).hide
  rw [← hW6]
  clear hW6 HS5 t0 t1 t2 t3 t4 tf n0 n1 n2 n3 nf hcell
  have HG := Lib.hid (give_ok (B := B) (D := D) (t := t) (T := { T1 with k := { root := (c0 : Int), many := T.k.many - 1, depth := T.k.depth } }) (i := r) (List.getElem?_eq_some_iff.1 HM.out).1 HBIG.out.1 HBIG.out.2 ⟨_, _, _, HNS2.out, hs6⟩)
  clear hs6
  go_upto_region 11 with ((go_at_call 54; refine HG.out.mono ?_; rintro e7 w7 ⟨rfl, nv7, fv7, ns7, hns7, hs7⟩; obtain ⟨t0, t1, t2, t3, t4, tf⟩ := hs7.tcells; have HS7 := Lib.hid hs7; have HNS7 := Lib.hid hns7; clear hs7 hns7; dsimp only [TM.give] at t4))
  have hw2 := HW2.out
  go_wp2_with (fail)
  go_ret
  refine ⟨rfl, nv7, fv7, ns7, HNS7.out, ?_⟩
  rw [show (T1.drop1 (c0 : Int) r).k = ({ root := (c0 : Int), many := T.k.many - 1, depth := T.k.depth - 1 } : Num) by unfold TM.drop1; rw [HK1.out]]
  exact (HS7.out.set_depth (T.k.depth - 1)).drop

set_option maxHeartbeats 4000000 in
theorem Delete_some {B w : World} {D : PH} {t r : Nat} {T T1 : TM} {l : List HP} {k : Val} {m : NodeM} (hr : valRight k = true) (hrem : ∀ (w : World) (l : List HP), TreeA B D w t T l → Calls Try.prog 53 #[.pointer (some ⟨t, 0, none⟩), .int .i64 r, k.v] w fun e w' => e = .returned (.bool true) ∧ TreeA B D w' t T1 l)
    (hroot : T.k.root = (r : Int)) (hk1 : T1.k = T.k) (hfit : T.k.fit) (hm : T1.nodes[r]? = some m) (hbig : T1.nodes.length ≤ 1000000) (hfb : T1.free.length ≤ 1000000) (hz : (m.leaf = true ∧ T.k.many ≠ 1) ∨ (m.leaf = false ∧ m.kids.length ≠ 1)) (h : TreeA B D w t T l) :
    Calls Try.prog 38 #[.pointer (some ⟨t, 0, none⟩), k.v] w fun e w' => e = .returned (.bool true) ∧ TreeA B D w' t T1.less l := by
  obtain ⟨nv, fv, ns, hns, hs⟩ := h
  obtain ⟨f1, f2, f3, f4⟩ := hfit
  have HS1 := Lib.hid (hs.alloc #[.bool k.t, .int .i64 k.n, .string k.s] tV)
  have HNS := Lib.hid hns
  have HRT := Lib.hid hroot
  have HR := Lib.hid hr
  have HREM := Lib.hid hrem
  have HM := Lib.hid hm
  have HK1 := Lib.hid hk1
  have HBIG := Lib.hid (And.intro hbig hfb)
  have hr0 : ¬ ((r : Int) < 0) := by omega
  have hw1 : IntKind.i64.wrap (T.k.many - 1) = T.k.many - 1 := i64w _ (by omega) (by omega)
  have hw2 : IntKind.i64.wrap (T.k.depth - 1) = T.k.depth - 1 := i64w _ (by omega) (by omega)
  have HW1 := Lib.hid hw1
  have HW2 := Lib.hid hw2
  have HZ := Lib.hid hz
  clear hz
  clear hs hns hroot hr hrem hm hk1 hw1 hw2
  dsimp only [Val.v]
  go_enter Try.func38, Try.ntmps38
  go_upto_region 1 with (fail)
  obtain ⟨W, hW, hs2⟩ := HS1.out.hide
  rw [← hW]
  clear HS1 hW
  generalize w.heap.size = bk at hs2 ⊢
  obtain ⟨t0, t1, t2, t3, t4, tf⟩ := hs2.tcells
  obtain ⟨x0, x1, x2, xf⟩ := cells3 (Sat.blk hs2 4 rfl)
  rw [HRT.out] at t2
  have HS2 := Lib.hid hs2
  clear hs2
  refine wp_region_canon [(0, false, 11), (1, false, 11), (2, false, 11), (3, false, 11), (4, false, 11), (5, false, 11), (6, false, 11), (7, false, 11), (8, false, 11), (9, false, 11), (10, false, 11), (11, true, 0), (12, false, 21), (13, false, 21), (14, false, 21), (15, false, 21), (16, false, 21), (17, false, 21), (18, false, 21), (19, false, 21), (20, false, 21), (21, true, 0), (22, false, 999), (23, false, 999)] (by kernel_rfl) (by kernel_rfl) ?_
  iterate 3 (refine wpCan_read rfl rfl (fun K hK => ?_); go_simp; refine hK _ ?_; clear hK K)
  first | (refine wpCan_no rfl rfl ?_; simp only [Act.put, List.setIfInBounds_toArray, List.set_cons_succ, List.set_cons_zero, List.getElem_toArray, List.getElem_cons_succ, List.getElem_cons_zero]) | (refine wpCan_yes rfl rfl (fun K hK => ?_); go_simp; refine hK _ ?_; clear hK K)
  first | (refine wpCan_no rfl rfl ?_; simp only [Act.put, List.setIfInBounds_toArray, List.set_cons_succ, List.set_cons_zero, List.getElem_toArray, List.getElem_cons_succ, List.getElem_cons_zero]) | (refine wpCan_yes rfl rfl (fun K hK => ?_); go_simp; refine hK _ ?_; clear hK K)
  first | (refine wpCan_no rfl rfl ?_; simp only [Act.put, List.setIfInBounds_toArray, List.set_cons_succ, List.set_cons_zero, List.getElem_toArray, List.getElem_cons_succ, List.getElem_cons_zero]) | (refine wpCan_yes rfl rfl (fun K hK => ?_); go_simp; refine hK _ ?_; clear hK K)
  first | (refine wpCan_no rfl rfl ?_; simp only [Act.put, List.setIfInBounds_toArray, List.set_cons_succ, List.set_cons_zero, List.getElem_toArray, List.getElem_cons_succ, List.getElem_cons_zero]) | (refine wpCan_yes rfl rfl (fun K hK => ?_); go_simp; refine hK _ ?_; clear hK K)
  first | (refine wpCan_no rfl rfl ?_; simp only [Act.put, List.setIfInBounds_toArray, List.set_cons_succ, List.set_cons_zero, List.getElem_toArray, List.getElem_cons_succ, List.getElem_cons_zero]) | (refine wpCan_yes rfl rfl (fun K hK => ?_); go_simp; refine hK _ ?_; clear hK K)
  iterate 2 (refine wpCan_read rfl rfl (fun K hK => ?_); go_simp; refine hK _ ?_; clear hK K)
  first | (refine wpCan_no rfl rfl ?_; simp only [Act.put, List.setIfInBounds_toArray, List.set_cons_succ, List.set_cons_zero, List.getElem_toArray, List.getElem_cons_succ, List.getElem_cons_zero]) | (refine wpCan_yes rfl rfl (fun K hK => ?_); go_simp; refine hK _ ?_; clear hK K)
  refine wpCan_eff rfl ?_
  refine wpList_do rfl (fun K hK => ?_)
  go_simp
  refine (right_ok k _).mono ?_
  rw [HR.out]
  rintro e1 w1 ⟨rfl, hk1⟩
  have HS3 := Lib.hid ((HS2.out.drew).kept hk1)
  clear hk1 HS2 x0 x1 x2 xf t0 t1 t2 t3 t4 tf
  obtain ⟨t0, t1, t2, t3, t4, tf⟩ := HS3.out.tcells
  obtain ⟨x0, x1, x2, xf⟩ := cells3 (Sat.blk HS3.out 4 rfl)
  rw [HRT.out] at t2
  have HRM := Lib.hid (HREM.out w1 _ ⟨_, _, _, HNS.out, HS3.out⟩)
  refine hK _ _ ?_
  clear hK K
  refine wpList_nil ?_
  refine And.intro ?_ ?_
  · go_simp
  first | (refine wpCan_no rfl rfl ?_; simp only [Act.put, List.setIfInBounds_toArray, List.set_cons_succ, List.set_cons_zero, List.getElem_toArray, List.getElem_cons_succ, List.getElem_cons_zero]) | (refine wpCan_yes rfl rfl (fun K hK => ?_); go_simp; refine hK _ ?_; clear hK K)
  iterate 2 (refine wpCan_read rfl rfl (fun K hK => ?_); go_simp; refine hK _ ?_; clear hK K)
  first | (refine wpCan_no rfl rfl ?_; simp only [Act.put, List.setIfInBounds_toArray, List.set_cons_succ, List.set_cons_zero, List.getElem_toArray, List.getElem_cons_succ, List.getElem_cons_zero]) | (refine wpCan_yes rfl rfl (fun K hK => ?_); go_simp; refine hK _ ?_; clear hK K)
  first | (refine wpCan_no rfl rfl ?_; simp only [Act.put, List.setIfInBounds_toArray, List.set_cons_succ, List.set_cons_zero, List.getElem_toArray, List.getElem_cons_succ, List.getElem_cons_zero]) | (refine wpCan_yes rfl rfl (fun K hK => ?_); go_simp; refine hK _ ?_; clear hK K)
  first | (refine wpCan_no rfl rfl ?_; simp only [Act.put, List.setIfInBounds_toArray, List.set_cons_succ, List.set_cons_zero, List.getElem_toArray, List.getElem_cons_succ, List.getElem_cons_zero]) | (refine wpCan_yes rfl rfl (fun K hK => ?_); go_simp; refine hK _ ?_; clear hK K)
  first | (refine wpCan_no rfl rfl ?_; simp only [Act.put, List.setIfInBounds_toArray, List.set_cons_succ, List.set_cons_zero, List.getElem_toArray, List.getElem_cons_succ, List.getElem_cons_zero]) | (refine wpCan_yes rfl rfl (fun K hK => ?_); go_simp; refine hK _ ?_; clear hK K)
  first | (refine wpCan_no rfl rfl ?_; simp only [Act.put, List.setIfInBounds_toArray, List.set_cons_succ, List.set_cons_zero, List.getElem_toArray, List.getElem_cons_succ, List.getElem_cons_zero]) | (refine wpCan_yes rfl rfl (fun K hK => ?_); go_simp; refine hK _ ?_; clear hK K)
  first | (refine wpCan_no rfl rfl ?_; simp only [Act.put, List.setIfInBounds_toArray, List.set_cons_succ, List.set_cons_zero, List.getElem_toArray, List.getElem_cons_succ, List.getElem_cons_zero]) | (refine wpCan_yes rfl rfl (fun K hK => ?_); go_simp; refine hK _ ?_; clear hK K)
  refine wpCan_eff rfl ?_
  refine wpList_do rfl (fun K hK => ?_)
  go_simp
  refine HRM.out.mono ?_
  rintro e2 w2 ⟨rfl, nv2, fv2, ns2, hns2, hs2⟩
  rw [HK1.out] at hs2
  have HS4 := Lib.hid hs2
  have HNS2 := Lib.hid hns2
  clear hns2 x0 x1 x2 xf t0 t1 t2 t3 t4 tf
  obtain ⟨t0, t1, t2, t3, t4, tf⟩ := hs2.tcells
  obtain ⟨x0, x1, x2, xf⟩ := cells3 (Sat.blk hs2 4 rfl)
  rw [HRT.out] at t2
  clear hs2
  refine hK _ _ ?_
  clear hK K
  refine wpList_nil ?_
  refine And.intro ?_ ?_
  · go_simp
  first | (refine wpCan_no rfl rfl ?_; simp only [Act.put, List.setIfInBounds_toArray, List.set_cons_succ, List.set_cons_zero, List.getElem_toArray, List.getElem_cons_succ, List.getElem_cons_zero]) | (refine wpCan_yes rfl rfl (fun K hK => ?_); go_simp; refine hK _ ?_; clear hK K)
  iterate 1 (refine wpCan_read rfl rfl (fun K hK => ?_); go_simp; refine hK _ ?_; clear hK K)
  refine wpCan_nil ?_
  obtain ⟨⟨kv, vv, dv⟩, hp⟩ := get_node HNS2.out HM.out
  have hlt := (List.getElem?_eq_some_iff.1 hp).1
  have hib : (r : Int) < (ns2.length : Int) := by omega
  have HP := Lib.hid hp
  obtain ⟨g, c, rfl, _, hcm⟩ := HS4.out.nv_some (by omega)
  unfold maxLen at hcm
  clear hp
  have hw1 := HW1.out
  go_upto_region 4 with (fail)
  obtain ⟨W5, hW5, hs5⟩ := (HS4.out.set_many (T.k.many - 1)).hide
  rw [← hW5]
  clear hW5 HS4 t0 t1 t2 t3 t4 tf x0 x1 x2 xf hw1
  obtain ⟨t0, t1, t2, t3, t4, tf⟩ := hs5.tcells
  obtain ⟨n0, n1, n2, n3, nf⟩ := hs5.node_cells HP.out
  dsimp only at n0 n1 n2 n3 t2 t3 t4
  rw [HRT.out] at t2
  obtain ⟨dO, dc, hdv⟩ := (hs5.focus HP.out).drop.drop.own_shape
  dsimp only at hdv
  subst hdv
  have HS5 := Lib.hid hs5
  clear hs5
  rcases HZ.out with ⟨hl, hz⟩ | ⟨hl, hz⟩
  · rw [hl] at n0
    have hz0 : (T.k.many - 1 == 0) = false := by simp; omega
    clear hl hz
    go_wp2_with (fail)
    go_ret
    refine ⟨rfl, .slice (some ⟨g, 0, none⟩) ns2.length c, fv2, ns2, HNS2.out, ?_⟩
    rw [show T1.less.k = ({ root := T.k.root, many := T.k.many - 1, depth := T.k.depth } : Num) by unfold TM.less; rw [HK1.out]]
    exact HS5.out.drop
  · rw [hl] at n0
    have hz0 : ((m.kids.length : Int) == 1) = false := by simp; omega
    clear hl hz
    go_wp2_with (fail)
    go_ret
    refine ⟨rfl, .slice (some ⟨g, 0, none⟩) ns2.length c, fv2, ns2, HNS2.out, ?_⟩
    rw [show T1.less.k = ({ root := T.k.root, many := T.k.many - 1, depth := T.k.depth } : Num) by unfold TM.less; rw [HK1.out]]
    exact HS5.out.drop
theorem TreeA.nil_of {B w : World} {D : PH} {t : Nat} {T : TM} {l : List HP} (h : TreeA B D w t T l) (hr : T.k.root < 0) : NilT w (.pointer (some ⟨t, 0, none⟩)) := by
  obtain ⟨nv, fv, ns, hns, hs⟩ := h
  exact .inr ⟨t, _, rfl, hs.tcells.2.2.1, hr⟩
def spn0 : Spn := ⟨false, false, false, default, false, false, default⟩
end Go.Proofs.Ytcbklkcpjldcjaa
