/- The tree: a tree that is none; Delete, by what remove does. -/
import Derived.Test.YtcbklkcpjldcjaaJ15
namespace Go.Proofs.Ytcbklkcpjldcjaa
open Go.ChangeShapes Go.WideShapes Go.ChangeAt Go.RowKit
set_option maxRecDepth 100000
set_option linter.unusedSimpArgs false
attribute [local go_sem] Oper.semAt_some

theorem text_none (n : Int) (s : ByteArray) : valRight ⟨false, n, s⟩ = s.toList.isEmpty := by
  unfold valRight
  simp only [Bool.false_eq_true, if_false]
  by_cases h : s = ⟨#[]⟩
  · subst h
    rw [ByteArray.toList_eq]
    rfl
  · rw [decide_eq_false h, ByteArray.toList_eq]
    cases he : s.data.toList.isEmpty with
    | false => rfl
    | true =>
      exfalso
      apply h
      obtain ⟨⟨x⟩⟩ := s
      cases x with
      | nil => rfl
      | cons a b => simp at he

set_option maxHeartbeats 1000000 in
theorem rright_ok (v : Val) (w : World) : Calls Try.prog 34 #[v.v] w fun e w' => e = .returned (.bool (valRight v)) ∧ Kept (fun _ => False) w w' := by
  obtain ⟨t, n, s⟩ := v
  have hk : Kept (fun _ => False) w (w.alloc (.cells #[.bool t, .int .i64 n, .string s] 23)) := (Kept.refl _ _).alloc _
  have HK := Lib.hid hk
  clear hk
  cases t
  · have E := Lib.hid (text_none n s)
    go_enter Try.func34, Try.ntmps34
    go_wp2_with fail
    go_ret
    exact ⟨by rw [E.out]; rfl, HK.out⟩
  · by_cases h : n = 0
    · subst h
      by_cases hs : (s.size : Int) ≤ 12
      · have E := Lib.hid (show valRight ⟨true, 0, s⟩ = true by simp [valRight]; omega)
        go_enter Try.func34, Try.ntmps34
        go_wp2_with fail
        go_ret
        exact ⟨by rw [E.out]; rfl, HK.out⟩
      · have E := Lib.hid (show valRight ⟨true, 0, s⟩ = false by simp [valRight]; omega)
        go_enter Try.func34, Try.ntmps34
        go_wp2_with fail
        go_ret
        exact ⟨by rw [E.out]; rfl, HK.out⟩
    · have hb : (n == 0) = false := by simpa using h
      have E := Lib.hid (show valRight ⟨true, n, s⟩ = false by simp [valRight, h])
      go_enter Try.func34, Try.ntmps34
      go_wp2_with fail
      go_ret
      exact ⟨by rw [E.out]; rfl, HK.out⟩

set_option maxHeartbeats 2000000 in
theorem Delete_none {w : World} {k : Val} {p : Value} (hp : NilT w p) :
    Calls Try.prog 38 #[p, k.v] w fun e w' => e = .returned (.bool false) ∧ Kept (fun _ => False) w w' := by
  have hk1 : Kept (fun _ => False) w (w.alloc (.cells #[.bool k.t, .int .i64 k.n, .string k.s] tV)) := (Kept.refl _ _).alloc _
  have hp1 := hp.kept hk1
  have HK1 := Lib.hid hk1
  clear hk1 hp
  dsimp only [Val.v]
  rcases hp1 with rfl | ⟨t, r, rfl, hc, hr⟩
  all_goals
    go_enter Try.func38, Try.ntmps38
    go_upto_region 1 with (fail)
    refine wp_region_canon [(0, false, 11), (1, false, 11), (2, false, 11), (3, false, 11), (4, false, 11), (5, false, 11), (6, false, 11), (7, false, 11), (8, false, 11), (9, false, 11), (10, false, 11), (11, true, 0), (12, false, 21), (13, false, 21), (14, false, 21), (15, false, 21), (16, false, 21), (17, false, 21), (18, false, 21), (19, false, 21), (20, false, 21), (21, true, 0), (22, false, 999), (23, false, 999)] (by kernel_rfl) (by kernel_rfl) ?_
    iterate 3 (refine wpCan_read rfl rfl (fun K hK => ?_); go_simp; refine hK _ ?_; clear hK K)
    first | (refine wpCan_no rfl rfl ?_; simp only [Act.put, List.setIfInBounds_toArray, List.set_cons_succ, List.set_cons_zero, List.getElem_toArray, List.getElem_cons_succ, List.getElem_cons_zero]) | (refine wpCan_yes rfl rfl (fun K hK => ?_); go_simp; refine hK _ ?_; clear hK K)
    first | (refine wpCan_no rfl rfl ?_; simp only [Act.put, List.setIfInBounds_toArray, List.set_cons_succ, List.set_cons_zero, List.getElem_toArray, List.getElem_cons_succ, List.getElem_cons_zero]) | (refine wpCan_yes rfl rfl (fun K hK => ?_); go_simp; refine hK _ ?_; clear hK K)
    first | (refine wpCan_no rfl rfl ?_; simp only [Act.put, List.setIfInBounds_toArray, List.set_cons_succ, List.set_cons_zero, List.getElem_toArray, List.getElem_cons_succ, List.getElem_cons_zero]) | (refine wpCan_yes rfl rfl (fun K hK => ?_); go_simp; refine hK _ ?_; clear hK K)
    first | (refine wpCan_no rfl rfl ?_; simp only [Act.put, List.setIfInBounds_toArray, List.set_cons_succ, List.set_cons_zero, List.getElem_toArray, List.getElem_cons_succ, List.getElem_cons_zero]) | (refine wpCan_yes rfl rfl (fun K hK => ?_); go_simp; refine hK _ ?_; clear hK K)
    first | (refine wpCan_no rfl rfl ?_; simp only [Act.put, List.setIfInBounds_toArray, List.set_cons_succ, List.set_cons_zero, List.getElem_toArray, List.getElem_cons_succ, List.getElem_cons_zero]) | (refine wpCan_yes rfl rfl (fun K hK => ?_); go_simp; refine hK _ ?_; clear hK K)
    iterate 2 (refine wpCan_read rfl rfl (fun K hK => ?_); go_simp; refine hK _ ?_; clear hK K)
    first | (refine wpCan_no rfl rfl ?_; simp only [Act.put, List.setIfInBounds_toArray, List.set_cons_succ, List.set_cons_zero, List.getElem_toArray, List.getElem_cons_succ, List.getElem_cons_zero]) | (refine wpCan_yes rfl rfl (fun K hK => ?_); go_simp; refine hK _ ?_; clear hK K)
    refine wpCan_eff rfl ?_
    refine wpList_not rfl ?_
    simp only [Act.put, List.setIfInBounds_toArray, List.set_cons_succ, List.set_cons_zero]
    refine wpList_nil ?_
    refine And.intro ?_ ?_
    · go_simp
    first | (refine wpCan_no rfl rfl ?_; simp only [Act.put, List.setIfInBounds_toArray, List.set_cons_succ, List.set_cons_zero, List.getElem_toArray, List.getElem_cons_succ, List.getElem_cons_zero]) | (refine wpCan_yes rfl rfl (fun K hK => ?_); go_simp; refine hK _ ?_; clear hK K)
    iterate 2 (refine wpCan_read rfl rfl (fun K hK => ?_); go_simp; refine hK _ ?_; clear hK K)
    first | (refine wpCan_no rfl rfl ?_; simp only [Act.put, List.setIfInBounds_toArray, List.set_cons_succ, List.set_cons_zero, List.getElem_toArray, List.getElem_cons_succ, List.getElem_cons_zero]) | (refine wpCan_yes rfl rfl (fun K hK => ?_); go_simp; refine hK _ ?_; clear hK K)
    first | (refine wpCan_no rfl rfl ?_; simp only [Act.put, List.setIfInBounds_toArray, List.set_cons_succ, List.set_cons_zero, List.getElem_toArray, List.getElem_cons_succ, List.getElem_cons_zero]) | (refine wpCan_yes rfl rfl (fun K hK => ?_); go_simp; refine hK _ ?_; clear hK K)
    first | (refine wpCan_no rfl rfl ?_; simp only [Act.put, List.setIfInBounds_toArray, List.set_cons_succ, List.set_cons_zero, List.getElem_toArray, List.getElem_cons_succ, List.getElem_cons_zero]) | (refine wpCan_yes rfl rfl (fun K hK => ?_); go_simp; refine hK _ ?_; clear hK K)
    first | (refine wpCan_no rfl rfl ?_; simp only [Act.put, List.setIfInBounds_toArray, List.set_cons_succ, List.set_cons_zero, List.getElem_toArray, List.getElem_cons_succ, List.getElem_cons_zero]) | (refine wpCan_yes rfl rfl (fun K hK => ?_); go_simp; refine hK _ ?_; clear hK K)
    first | (refine wpCan_no rfl rfl ?_; simp only [Act.put, List.setIfInBounds_toArray, List.set_cons_succ, List.set_cons_zero, List.getElem_toArray, List.getElem_cons_succ, List.getElem_cons_zero]) | (refine wpCan_yes rfl rfl (fun K hK => ?_); go_simp; refine hK _ ?_; clear hK K)
    first | (refine wpCan_no rfl rfl ?_; simp only [Act.put, List.setIfInBounds_toArray, List.set_cons_succ, List.set_cons_zero, List.getElem_toArray, List.getElem_cons_succ, List.getElem_cons_zero]) | (refine wpCan_yes rfl rfl (fun K hK => ?_); go_simp; refine hK _ ?_; clear hK K)
    refine wpCan_eff rfl ?_
    refine wpList_not rfl ?_
    simp only [Act.put, List.setIfInBounds_toArray, List.set_cons_succ, List.set_cons_zero]
    refine wpList_nil ?_
    refine And.intro ?_ ?_
    · go_simp
    first | (refine wpCan_no rfl rfl ?_; simp only [Act.put, List.setIfInBounds_toArray, List.set_cons_succ, List.set_cons_zero, List.getElem_toArray, List.getElem_cons_succ, List.getElem_cons_zero]) | (refine wpCan_yes rfl rfl (fun K hK => ?_); go_simp; refine hK _ ?_; clear hK K)
    iterate 1 (refine wpCan_read rfl rfl (fun K hK => ?_); go_simp; refine hK _ ?_; clear hK K)
    refine wpCan_nil ?_
    go_wp2_with fail
    go_ret
    exact ⟨rfl, HK1.out.drew⟩

/-- what Delete leaves behind when a key was taken away -/
def TM.less (T : TM) : TM := { T with k := { T.k with many := T.k.many - 1 } }
def TM.drop1 (T : TM) (root : Int) (top : Nat) : TM := { (T.give top) with k := { root := root, many := T.k.many - 1, depth := T.k.depth - 1 } }

set_option maxHeartbeats 3000000 in
theorem Delete_no {B w : World} {D : PH} {t r : Nat} {T : TM} {l : List HP} {k : Val} (hr : valRight k = false ∨ (valRight k = true ∧ ∀ (w : World) (l : List HP), TreeA B D w t T l → Calls Try.prog 53 #[.pointer (some ⟨t, 0, none⟩), .int .i64 r, k.v] w fun e w' => e = .returned (.bool false) ∧ TreeA B D w' t T l))
    (hroot : T.k.root = (r : Int)) (h : TreeA B D w t T l) :
    Calls Try.prog 38 #[.pointer (some ⟨t, 0, none⟩), k.v] w fun e w' => e = .returned (.bool false) ∧ TreeA B D w' t T l := by
  obtain ⟨nv, fv, ns, hns, hs⟩ := h
  have HS1 := Lib.hid (hs.alloc #[.bool k.t, .int .i64 k.n, .string k.s] tV)
  have HNS := Lib.hid hns
  have HRT := Lib.hid hroot
  have hr0 : ¬ ((r : Int) < 0) := by omega
  clear hs hns hroot
  dsimp only [Val.v]
  rcases hr with hr | ⟨hr, hrem⟩
  all_goals
    have HR := Lib.hid hr
    clear hr
    go_enter Try.func38, Try.ntmps38
    go_upto_region 1 with (fail)
    obtain ⟨W, hW, hs2⟩ := HS1.out.hide
    rw [← hW]
    clear HS1 hW
    generalize w.heap.size = bk at hs2 ⊢
    obtain ⟨t0, t1, t2, t3, t4, tf⟩ := hs2.tcells
    obtain ⟨x0, x1, x2, xf⟩ := cells3 (Sat.blk hs2 4 rfl)
    rw [HRT.out] at t2
    have HS2 := Lib.hid hs2
    clear hs2
  · refine wp_region_canon [(0, false, 11), (1, false, 11), (2, false, 11), (3, false, 11), (4, false, 11), (5, false, 11), (6, false, 11), (7, false, 11), (8, false, 11), (9, false, 11), (10, false, 11), (11, true, 0), (12, false, 21), (13, false, 21), (14, false, 21), (15, false, 21), (16, false, 21), (17, false, 21), (18, false, 21), (19, false, 21), (20, false, 21), (21, true, 0), (22, false, 999), (23, false, 999)] (by kernel_rfl) (by kernel_rfl) ?_
    iterate 3 (refine wpCan_read rfl rfl (fun K hK => ?_); go_simp; refine hK _ ?_; clear hK K)
    first | (refine wpCan_no rfl rfl ?_; simp only [Act.put, List.setIfInBounds_toArray, List.set_cons_succ, List.set_cons_zero, List.getElem_toArray, List.getElem_cons_succ, List.getElem_cons_zero]) | (refine wpCan_yes rfl rfl (fun K hK => ?_); go_simp; refine hK _ ?_; clear hK K)
    first | (refine wpCan_no rfl rfl ?_; simp only [Act.put, List.setIfInBounds_toArray, List.set_cons_succ, List.set_cons_zero, List.getElem_toArray, List.getElem_cons_succ, List.getElem_cons_zero]) | (refine wpCan_yes rfl rfl (fun K hK => ?_); go_simp; refine hK _ ?_; clear hK K)
    first | (refine wpCan_no rfl rfl ?_; simp only [Act.put, List.setIfInBounds_toArray, List.set_cons_succ, List.set_cons_zero, List.getElem_toArray, List.getElem_cons_succ, List.getElem_cons_zero]) | (refine wpCan_yes rfl rfl (fun K hK => ?_); go_simp; refine hK _ ?_; clear hK K)
    first | (refine wpCan_no rfl rfl ?_; simp only [Act.put, List.setIfInBounds_toArray, List.set_cons_succ, List.set_cons_zero, List.getElem_toArray, List.getElem_cons_succ, List.getElem_cons_zero]) | (refine wpCan_yes rfl rfl (fun K hK => ?_); go_simp; refine hK _ ?_; clear hK K)
    first | (refine wpCan_no rfl rfl ?_; simp only [Act.put, List.setIfInBounds_toArray, List.set_cons_succ, List.set_cons_zero, List.getElem_toArray, List.getElem_cons_succ, List.getElem_cons_zero]) | (refine wpCan_yes rfl rfl (fun K hK => ?_); go_simp; refine hK _ ?_; clear hK K)
    iterate 2 (refine wpCan_read rfl rfl (fun K hK => ?_); go_simp; refine hK _ ?_; clear hK K)
    first | (refine wpCan_no rfl rfl ?_; simp only [Act.put, List.setIfInBounds_toArray, List.set_cons_succ, List.set_cons_zero, List.getElem_toArray, List.getElem_cons_succ, List.getElem_cons_zero]) | (refine wpCan_yes rfl rfl (fun K hK => ?_); go_simp; refine hK _ ?_; clear hK K)
    refine wpCan_eff rfl ?_
    refine wpList_do rfl (fun K hK => ?_)
    go_simp
    refine (right_ok k _).mono ?_
    rw [HR.out]
    rintro e1 w1 ⟨rfl, hk1⟩
    have HS3 := Lib.hid ((HS2.out.drew).kept hk1)
    clear hk1 HS2 x0 x1 x2 xf t0 t1 t2 t3 t4 tf
    obtain ⟨t0, t1, t2, t3, t4, tf⟩ := HS3.out.tcells
    obtain ⟨x0, x1, x2, xf⟩ := cells3 (Sat.blk HS3.out 4 rfl)
    rw [HRT.out] at t2
    refine hK _ _ ?_
    clear hK K
    refine wpList_nil ?_
    refine And.intro ?_ ?_
    · go_simp
    first | (refine wpCan_no rfl rfl ?_; simp only [Act.put, List.setIfInBounds_toArray, List.set_cons_succ, List.set_cons_zero, List.getElem_toArray, List.getElem_cons_succ, List.getElem_cons_zero]) | (refine wpCan_yes rfl rfl (fun K hK => ?_); go_simp; refine hK _ ?_; clear hK K)
    iterate 2 (refine wpCan_read rfl rfl (fun K hK => ?_); go_simp; refine hK _ ?_; clear hK K)
    first | (refine wpCan_no rfl rfl ?_; simp only [Act.put, List.setIfInBounds_toArray, List.set_cons_succ, List.set_cons_zero, List.getElem_toArray, List.getElem_cons_succ, List.getElem_cons_zero]) | (refine wpCan_yes rfl rfl (fun K hK => ?_); go_simp; refine hK _ ?_; clear hK K)
    first | (refine wpCan_no rfl rfl ?_; simp only [Act.put, List.setIfInBounds_toArray, List.set_cons_succ, List.set_cons_zero, List.getElem_toArray, List.getElem_cons_succ, List.getElem_cons_zero]) | (refine wpCan_yes rfl rfl (fun K hK => ?_); go_simp; refine hK _ ?_; clear hK K)
    first | (refine wpCan_no rfl rfl ?_; simp only [Act.put, List.setIfInBounds_toArray, List.set_cons_succ, List.set_cons_zero, List.getElem_toArray, List.getElem_cons_succ, List.getElem_cons_zero]) | (refine wpCan_yes rfl rfl (fun K hK => ?_); go_simp; refine hK _ ?_; clear hK K)
    first | (refine wpCan_no rfl rfl ?_; simp only [Act.put, List.setIfInBounds_toArray, List.set_cons_succ, List.set_cons_zero, List.getElem_toArray, List.getElem_cons_succ, List.getElem_cons_zero]) | (refine wpCan_yes rfl rfl (fun K hK => ?_); go_simp; refine hK _ ?_; clear hK K)
    first | (refine wpCan_no rfl rfl ?_; simp only [Act.put, List.setIfInBounds_toArray, List.set_cons_succ, List.set_cons_zero, List.getElem_toArray, List.getElem_cons_succ, List.getElem_cons_zero]) | (refine wpCan_yes rfl rfl (fun K hK => ?_); go_simp; refine hK _ ?_; clear hK K)
    first | (refine wpCan_no rfl rfl ?_; simp only [Act.put, List.setIfInBounds_toArray, List.set_cons_succ, List.set_cons_zero, List.getElem_toArray, List.getElem_cons_succ, List.getElem_cons_zero]) | (refine wpCan_yes rfl rfl (fun K hK => ?_); go_simp; refine hK _ ?_; clear hK K)
    refine wpCan_eff rfl ?_
    refine wpList_not rfl ?_
    simp only [Act.put, List.setIfInBounds_toArray, List.set_cons_succ, List.set_cons_zero]
    refine wpList_nil ?_
    refine And.intro ?_ ?_
    · go_simp
    first | (refine wpCan_no rfl rfl ?_; simp only [Act.put, List.setIfInBounds_toArray, List.set_cons_succ, List.set_cons_zero, List.getElem_toArray, List.getElem_cons_succ, List.getElem_cons_zero]) | (refine wpCan_yes rfl rfl (fun K hK => ?_); go_simp; refine hK _ ?_; clear hK K)
    iterate 1 (refine wpCan_read rfl rfl (fun K hK => ?_); go_simp; refine hK _ ?_; clear hK K)
    refine wpCan_nil ?_
    go_wp2_with fail
    go_ret
    exact ⟨rfl, _, _, _, HNS.out, HS3.out.drop⟩
  · have HREM := Lib.hid hrem
    clear hrem
    refine wp_region_canon [(0, false, 11), (1, false, 11), (2, false, 11), (3, false, 11), (4, false, 11), (5, false, 11), (6, false, 11), (7, false, 11), (8, false, 11), (9, false, 11), (10, false, 11), (11, true, 0), (12, false, 21), (13, false, 21), (14, false, 21), (15, false, 21), (16, false, 21), (17, false, 21), (18, false, 21), (19, false, 21), (20, false, 21), (21, true, 0), (22, false, 999), (23, false, 999)] (by kernel_rfl) (by kernel_rfl) ?_
    iterate 3 (refine wpCan_read rfl rfl (fun K hK => ?_); go_simp; refine hK _ ?_; clear hK K)
    first | (refine wpCan_no rfl rfl ?_; simp only [Act.put, List.setIfInBounds_toArray, List.set_cons_succ, List.set_cons_zero, List.getElem_toArray, List.getElem_cons_succ, List.getElem_cons_zero]) | (refine wpCan_yes rfl rfl (fun K hK => ?_); go_simp; refine hK _ ?_; clear hK K)
    first | (refine wpCan_no rfl rfl ?_; simp only [Act.put, List.setIfInBounds_toArray, List.set_cons_succ, List.set_cons_zero, List.getElem_toArray, List.getElem_cons_succ, List.getElem_cons_zero]) | (refine wpCan_yes rfl rfl (fun K hK => ?_); go_simp; refine hK _ ?_; clear hK K)
    first | (refine wpCan_no rfl rfl ?_; simp only [Act.put, List.setIfInBounds_toArray, List.set_cons_succ, List.set_cons_zero, List.getElem_toArray, List.getElem_cons_succ, List.getElem_cons_zero]) | (refine wpCan_yes rfl rfl (fun K hK => ?_); go_simp; refine hK _ ?_; clear hK K)
    first | (refine wpCan_no rfl rfl ?_; simp only [Act.put, List.setIfInBounds_toArray, List.set_cons_succ, List.set_cons_zero, List.getElem_toArray, List.getElem_cons_succ, List.getElem_cons_zero]) | (refine wpCan_yes rfl rfl (fun K hK => ?_); go_simp; refine hK _ ?_; clear hK K)
    first | (refine wpCan_no rfl rfl ?_; simp only [Act.put, List.setIfInBounds_toArray, List.set_cons_succ, List.set_cons_zero, List.getElem_toArray, List.getElem_cons_succ, List.getElem_cons_zero]) | (refine wpCan_yes rfl rfl (fun K hK => ?_); go_simp; refine hK _ ?_; clear hK K)
    iterate 2 (refine wpCan_read rfl rfl (fun K hK => ?_); go_simp; refine hK _ ?_; clear hK K)
    first | (refine wpCan_no rfl rfl ?_; simp only [Act.put, List.setIfInBounds_toArray, List.set_cons_succ, List.set_cons_zero, List.getElem_toArray, List.getElem_cons_succ, List.getElem_cons_zero]) | (refine wpCan_yes rfl rfl (fun K hK => ?_); go_simp; refine hK _ ?_; clear hK K)
    refine wpCan_eff rfl ?_
    refine wpList_do rfl (fun K hK => ?_)
    go_simp
    refine (right_ok k _).mono ?_
    rw [HR.out]
    rintro e1 w1 ⟨rfl, hk1⟩
    have HS3 := Lib.hid ((HS2.out.drew).kept hk1)
    clear hk1 HS2 x0 x1 x2 xf t0 t1 t2 t3 t4 tf
    obtain ⟨t0, t1, t2, t3, t4, tf⟩ := HS3.out.tcells
    obtain ⟨x0, x1, x2, xf⟩ := cells3 (Sat.blk HS3.out 4 rfl)
    rw [HRT.out] at t2
    have HRM := Lib.hid (HREM.out w1 _ ⟨_, _, _, HNS.out, HS3.out⟩)
    refine hK _ _ ?_
    clear hK K
    refine wpList_nil ?_
    refine And.intro ?_ ?_
    · go_simp
    first | (refine wpCan_no rfl rfl ?_; simp only [Act.put, List.setIfInBounds_toArray, List.set_cons_succ, List.set_cons_zero, List.getElem_toArray, List.getElem_cons_succ, List.getElem_cons_zero]) | (refine wpCan_yes rfl rfl (fun K hK => ?_); go_simp; refine hK _ ?_; clear hK K)
    iterate 2 (refine wpCan_read rfl rfl (fun K hK => ?_); go_simp; refine hK _ ?_; clear hK K)
    first | (refine wpCan_no rfl rfl ?_; simp only [Act.put, List.setIfInBounds_toArray, List.set_cons_succ, List.set_cons_zero, List.getElem_toArray, List.getElem_cons_succ, List.getElem_cons_zero]) | (refine wpCan_yes rfl rfl (fun K hK => ?_); go_simp; refine hK _ ?_; clear hK K)
    first | (refine wpCan_no rfl rfl ?_; simp only [Act.put, List.setIfInBounds_toArray, List.set_cons_succ, List.set_cons_zero, List.getElem_toArray, List.getElem_cons_succ, List.getElem_cons_zero]) | (refine wpCan_yes rfl rfl (fun K hK => ?_); go_simp; refine hK _ ?_; clear hK K)
    first | (refine wpCan_no rfl rfl ?_; simp only [Act.put, List.setIfInBounds_toArray, List.set_cons_succ, List.set_cons_zero, List.getElem_toArray, List.getElem_cons_succ, List.getElem_cons_zero]) | (refine wpCan_yes rfl rfl (fun K hK => ?_); go_simp; refine hK _ ?_; clear hK K)
    first | (refine wpCan_no rfl rfl ?_; simp only [Act.put, List.setIfInBounds_toArray, List.set_cons_succ, List.set_cons_zero, List.getElem_toArray, List.getElem_cons_succ, List.getElem_cons_zero]) | (refine wpCan_yes rfl rfl (fun K hK => ?_); go_simp; refine hK _ ?_; clear hK K)
    first | (refine wpCan_no rfl rfl ?_; simp only [Act.put, List.setIfInBounds_toArray, List.set_cons_succ, List.set_cons_zero, List.getElem_toArray, List.getElem_cons_succ, List.getElem_cons_zero]) | (refine wpCan_yes rfl rfl (fun K hK => ?_); go_simp; refine hK _ ?_; clear hK K)
    first | (refine wpCan_no rfl rfl ?_; simp only [Act.put, List.setIfInBounds_toArray, List.set_cons_succ, List.set_cons_zero, List.getElem_toArray, List.getElem_cons_succ, List.getElem_cons_zero]) | (refine wpCan_yes rfl rfl (fun K hK => ?_); go_simp; refine hK _ ?_; clear hK K)
    refine wpCan_eff rfl ?_
    refine wpList_do rfl (fun K hK => ?_)
    go_simp
    refine HRM.out.mono ?_
    rintro e2 w2 ⟨rfl, nv2, fv2, ns2, hns2, hs2⟩
    have HS4 := Lib.hid hs2
    have HNS2 := Lib.hid hns2
    clear hns2 x0 x1 x2 xf t0 t1 t2 t3 t4 tf
    obtain ⟨t0, t1, t2, t3, t4, tf⟩ := hs2.tcells
    obtain ⟨x0, x1, x2, xf⟩ := cells3 (Sat.blk hs2 4 rfl)
    rw [HRT.out] at t2
    clear hs2
    refine hK _ _ ?_
    clear hK K
    refine wpList_nil ?_
    refine And.intro ?_ ?_
    · go_simp
    first | (refine wpCan_no rfl rfl ?_; simp only [Act.put, List.setIfInBounds_toArray, List.set_cons_succ, List.set_cons_zero, List.getElem_toArray, List.getElem_cons_succ, List.getElem_cons_zero]) | (refine wpCan_yes rfl rfl (fun K hK => ?_); go_simp; refine hK _ ?_; clear hK K)
    iterate 1 (refine wpCan_read rfl rfl (fun K hK => ?_); go_simp; refine hK _ ?_; clear hK K)
    refine wpCan_nil ?_
    go_wp2_with fail
    go_ret
    exact ⟨rfl, _, _, _, HNS2.out, HS4.out.drop⟩
end Go.Proofs.Ytcbklkcpjldcjaa
