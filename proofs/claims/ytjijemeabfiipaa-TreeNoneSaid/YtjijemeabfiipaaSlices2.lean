/- The library's Delete of slices as the tree calls it. -/
import Derived.Test.YtjijemeabfiipaaSlices
namespace Go.Proofs.Ytjijemeabfiipaa
open Go.ChangeShapes Go.WideShapes Go.ChangeAt Go.RowKit
set_option maxRecDepth 100000
set_option linter.unusedSimpArgs false

theorem zone1_Val : ∀ u ∈ (Builtin.zeroCells (Value.agg #[.bool false, .int .i64 0, .string ⟨#[]⟩]).cells 1).toList, u.oneCell' = true := zeroCells_mem zone_Val 1
theorem zone1_Int : ∀ u ∈ (Builtin.zeroCells (Value.int .i64 0).cells 1).toList, u.oneCell' = true := zeroCells_mem zone_Int 1

theorem zeros_Val (w : World) : (zeroValue 24).run Try.prog w = .ok (.agg #[.bool false, .int .i64 0, .string ⟨#[]⟩]) w := Try.zeroValue24 w
set_option maxHeartbeats 2000000 in
theorem delete_Val {B w : World} {D : PH} {l : List HP} {v : Value} {n i : Nat} {xs ys : List Value} (hys : ys = xs.take (i * 3) ++ xs.drop ((i + 1) * 3)) (hin : i ≤ n) (hs : Sat B D w (ownS 24 3 v (n + 1) xs :: l)) :
    Calls Try.prog 48 #[v, .int .i64 i, .int .i64 (i + 1)] w fun e w' => ∃ v', e = .returned v' ∧ Sat B D w' (ownS 24 3 v' n ys :: l) := by
  obtain ⟨i0, hi, hz0, hz1, hz2⟩ := info_parts infoVal
  obtain ⟨g, cap, rfl, hnc, hcm⟩ := (hs.own 0 rfl).form (by omega)
  have ho := hs.own 0 rfl
  have hxl := ho.1
  have hc1 := ho.2.1
  have hcm' := hcm
  unfold maxLen at hcm
  have hcut := (hs.own_cut (m := i) (c := cap) (by omega) (by omega) (by omega)).drew
  have hrd1 : ∀ o, (i + 1 < cap → o = ((i + 1) * 3)) → Rd w.drew 3 (.slice (some ⟨g, o, none⟩) (n - i) (cap - (i + 1))) (n - i) (xs.drop ((i + 1) * 3)) := fun o ho' => by
    refine ⟨by rw [List.length_drop, hxl, ← Nat.sub_mul]; congr 1; omega, by unfold maxLen; omega, _, _, rfl, by omega, by unfold maxLen; omega, (fun h => by cases h), ?_⟩
    by_cases hc : n - i = 0
    · exact .inl hc
    · refine .inr ⟨g, _, rfl, fun j u hu => ?_⟩
      rw [ho' (by omega)]
      rw [List.getElem?_drop] at hu
      have := ho.cells _ u hu
      simpa using this
  have HC := Lib.hid hcut
  have HRD := Lib.hid hrd1
  have HI := Lib.hid (And.intro hi (And.intro hz0 (And.intro hz1 hz2)))
  have HXL := Lib.hid hxl
  have HC1 := Lib.hid hc1
  have HYS := Lib.hid hys
  have HFREE := Lib.hid (show ∀ u ∈ xs.drop ((i + 1) * 3), u.oneCell' = true from fun u hu => hc1 u (List.mem_of_mem_drop hu))
  clear hs ho hxl hc1 hcut hrd1 hi hz0 hz1 hz2 hys
  have hij : ¬ ((i : Int) = (i : Int) + 1) := by omega
  have htn : ((i : Int) + 1).toNat = i + 1 := by omega
  have hb0 : (0 : Int) ≤ (i : Int) + 1 := by omega
  have hb1 : (i : Int) ≤ (i : Int) + 1 := by omega
  have hb2 : (i : Int) + 1 ≤ (n : Int) + 1 := by omega
  have hb3 : (n : Int) + 1 ≤ (cap : Int) := by omega
  have hb4 : (i : Int) ≤ (cap : Int) := by omega
  have hb5 : i ≤ cap := by omega
  have hb7 : ¬ (cap = n) := by omega
  go_enter Try.func48, Try.ntmps48
  go_upto_region 5 with (fail)
  by_cases hci : cap = i + 1
  · have hrd := HRD.out 0 (by omega)
    have HR := Lib.hid hrd
    clear hrd HRD
    subst hci
    obtain rfl : n = i := by omega
    refine wp_region_canon [(0, false, 6), (1, false, 6), (2, false, 6), (3, false, 6), (4, false, 6), (5, false, 6), (6, true, 0), (7, false, 999)] (by kernel_rfl) (by kernel_rfl) ?_
    iterate 6 (refine wpCan_read rfl rfl (fun K hK => ?_); go_simp; refine hK _ ?_; clear hK K)
    refine wpCan_eff rfl ?_
    refine wpList_append_room_Sat _ rfl _ _ 46 rfl 24 i0 3 Try.underlying46 HI.out.1 HI.out.2.2.1 g n _ _ rfl HC.out (.slice (some ⟨g, 0, none⟩) 0 0) 0 _ rfl (by simpa using HR.out) HFREE.out (by omega) ?_
    intro w3 h3
    rw [Nat.add_zero] at h3 ⊢
    obtain ⟨cur, h4, _, _, hcz, hct, _, hcl⟩ := h3.own_row
    have H4 := Lib.hid h4
    have HCT := Lib.hid hct
    clear h3 h4 hct hcl HC HR
    refine wpList_nil ?_
    refine And.intro ?_ ?_
    · go_simp
    iterate 1 (refine wpCan_read rfl rfl (fun K hK => ?_); go_simp; refine hK _ ?_; clear hK K)
    refine wpCan_nil ?_
    go_wp2_with (show wpList _ _ _ (⟨none, .call _, _, _, _, _⟩ :: _) _ _; refine wpList_clear_Sat _ rfl _ 46 rfl 24 _ Try.underlying46 (fun w => zeros_Val w) g _ 1 _ rfl cur H4.out (by omega) (by simp [size_zeroCells, Value.cells]; omega) zone1_Val ?_; intro w5 h5; have H5 := Lib.hid h5; clear h5)
    go_ret
    refine ⟨_, rfl, H5.out.row_own (by omega) hcm' (by rw [lay_len _ _ _ (by simp [size_zeroCells, Value.cells]; omega)]; exact hcz) ?_ ?_⟩
    · unfold lay
      rw [List.append_assoc, List.take_append_of_le_length (by rw [List.length_take]; omega), HYS.out, ← HCT.out, List.take_take]
      congr 1
      omega
    · intro u hu
      rw [HYS.out] at hu
      exact (List.mem_append.1 hu).elim (fun h => HC1.out u (List.mem_of_mem_take h)) (fun h => HC1.out u (List.mem_of_mem_drop h))
  · have hrd := HRD.out ((i + 1) * 3) (fun _ => rfl)
    have HR := Lib.hid hrd
    clear hrd HRD
    refine wp_region_canon [(0, false, 6), (1, false, 6), (2, false, 6), (3, false, 6), (4, false, 6), (5, false, 6), (6, true, 0), (7, false, 999)] (by kernel_rfl) (by kernel_rfl) ?_
    iterate 6 (refine wpCan_read rfl rfl (fun K hK => ?_); go_simp; refine hK _ ?_; clear hK K)
    refine wpCan_eff rfl ?_
    refine wpList_append_room_Sat _ rfl _ _ 46 rfl 24 i0 3 Try.underlying46 HI.out.1 HI.out.2.2.1 g i _ _ rfl HC.out (.slice (some ⟨g, ((i + 1) * 3), none⟩) (n - i) (cap - (i + 1))) (n - i) _ rfl HR.out HFREE.out (by omega) ?_
    intro w3 h3
    rw [show i + (n - i) = n by omega] at h3 ⊢
    obtain ⟨cur, h4, _, _, hcz, hct, _, hcl⟩ := h3.own_row
    have H4 := Lib.hid h4
    have HCT := Lib.hid hct
    clear h3 h4 hct hcl HC HR
    refine wpList_nil ?_
    refine And.intro ?_ ?_
    · go_simp
    iterate 1 (refine wpCan_read rfl rfl (fun K hK => ?_); go_simp; refine hK _ ?_; clear hK K)
    refine wpCan_nil ?_
    go_wp2_with (show wpList _ _ _ (⟨none, .call _, _, _, _, _⟩ :: _) _ _; refine wpList_clear_Sat _ rfl _ 46 rfl 24 _ Try.underlying46 (fun w => zeros_Val w) g _ 1 _ rfl cur H4.out (by omega) (by simp [size_zeroCells, Value.cells]; omega) zone1_Val ?_; intro w5 h5; have H5 := Lib.hid h5; clear h5)
    go_ret
    refine ⟨_, rfl, H5.out.row_own (by omega) hcm' (by rw [lay_len _ _ _ (by simp [size_zeroCells, Value.cells]; omega)]; exact hcz) ?_ ?_⟩
    · unfold lay
      rw [List.append_assoc, List.take_append_of_le_length (by rw [List.length_take]; omega), HYS.out, ← HCT.out, List.take_take]
      congr 1
      omega
    · intro u hu
      rw [HYS.out] at hu
      exact (List.mem_append.1 hu).elim (fun h => HC1.out u (List.mem_of_mem_take h)) (fun h => HC1.out u (List.mem_of_mem_drop h))

theorem zeros_Int (w : World) : (zeroValue 3).run Try.prog w = .ok (.int .i64 0) w := Try.zeroValue3 w
set_option maxHeartbeats 2000000 in
theorem delete_Int {B w : World} {D : PH} {l : List HP} {v : Value} {n i : Nat} {xs ys : List Value} (hys : ys = xs.take (i * 1) ++ xs.drop ((i + 1) * 1)) (hin : i ≤ n) (hs : Sat B D w (ownS 3 1 v (n + 1) xs :: l)) :
    Calls Try.prog 49 #[v, .int .i64 i, .int .i64 (i + 1)] w fun e w' => ∃ v', e = .returned v' ∧ Sat B D w' (ownS 3 1 v' n ys :: l) := by
  obtain ⟨i0, hi, hz0, hz1, hz2⟩ := info_parts infoInt
  obtain ⟨g, cap, rfl, hnc, hcm⟩ := (hs.own 0 rfl).form (by omega)
  have ho := hs.own 0 rfl
  have hxl := ho.1
  have hc1 := ho.2.1
  have hcm' := hcm
  unfold maxLen at hcm
  have hcut := (hs.own_cut (m := i) (c := cap) (by omega) (by omega) (by omega)).drew
  have hrd1 : ∀ o, (i + 1 < cap → o = (i + 1)) → Rd w.drew 1 (.slice (some ⟨g, o, none⟩) (n - i) (cap - (i + 1))) (n - i) (xs.drop ((i + 1) * 1)) := fun o ho' => by
    refine ⟨by rw [List.length_drop, hxl, ← Nat.sub_mul]; congr 1; omega, by unfold maxLen; omega, _, _, rfl, by omega, by unfold maxLen; omega, (fun h => by cases h), ?_⟩
    by_cases hc : n - i = 0
    · exact .inl hc
    · refine .inr ⟨g, _, rfl, fun j u hu => ?_⟩
      rw [ho' (by omega)]
      rw [List.getElem?_drop] at hu
      have := ho.cells _ u hu
      simpa using this
  have HC := Lib.hid hcut
  have HRD := Lib.hid hrd1
  have HI := Lib.hid (And.intro hi (And.intro hz0 (And.intro hz1 hz2)))
  have HXL := Lib.hid hxl
  have HC1 := Lib.hid hc1
  have HYS := Lib.hid hys
  have HFREE := Lib.hid (show ∀ u ∈ xs.drop ((i + 1) * 1), u.oneCell' = true from fun u hu => hc1 u (List.mem_of_mem_drop hu))
  clear hs ho hxl hc1 hcut hrd1 hi hz0 hz1 hz2 hys
  have hij : ¬ ((i : Int) = (i : Int) + 1) := by omega
  have htn : ((i : Int) + 1).toNat = i + 1 := by omega
  have hb0 : (0 : Int) ≤ (i : Int) + 1 := by omega
  have hb1 : (i : Int) ≤ (i : Int) + 1 := by omega
  have hb2 : (i : Int) + 1 ≤ (n : Int) + 1 := by omega
  have hb3 : (n : Int) + 1 ≤ (cap : Int) := by omega
  have hb4 : (i : Int) ≤ (cap : Int) := by omega
  have hb5 : i ≤ cap := by omega
  have hb7 : ¬ (cap = n) := by omega
  go_enter Try.func49, Try.ntmps49
  go_upto_region 5 with (fail)
  by_cases hci : cap = i + 1
  · have hrd := HRD.out 0 (by omega)
    have HR := Lib.hid hrd
    clear hrd HRD
    subst hci
    obtain rfl : n = i := by omega
    refine wp_region_canon [(0, false, 6), (1, false, 6), (2, false, 6), (3, false, 6), (4, false, 6), (5, false, 6), (6, true, 0), (7, false, 999)] (by kernel_rfl) (by kernel_rfl) ?_
    iterate 6 (refine wpCan_read rfl rfl (fun K hK => ?_); go_simp; refine hK _ ?_; clear hK K)
    refine wpCan_eff rfl ?_
    refine wpList_append_room_Sat _ rfl _ _ 58 rfl 3 i0 1 Try.underlying58 HI.out.1 HI.out.2.2.1 g n _ _ rfl HC.out (.slice (some ⟨g, 0, none⟩) 0 0) 0 _ rfl (by simpa using HR.out) HFREE.out (by omega) ?_
    intro w3 h3
    rw [Nat.add_zero] at h3 ⊢
    obtain ⟨cur, h4, _, _, hcz, hct, _, hcl⟩ := h3.own_row
    have H4 := Lib.hid h4
    have HCT := Lib.hid hct
    clear h3 h4 hct hcl HC HR
    refine wpList_nil ?_
    refine And.intro ?_ ?_
    · go_simp
    iterate 1 (refine wpCan_read rfl rfl (fun K hK => ?_); go_simp; refine hK _ ?_; clear hK K)
    refine wpCan_nil ?_
    go_wp2_with (show wpList _ _ _ (⟨none, .call _, _, _, _, _⟩ :: _) _ _; refine wpList_clear_Sat _ rfl _ 58 rfl 3 _ Try.underlying58 (fun w => zeros_Int w) g _ 1 _ rfl cur H4.out (by omega) (by simp [size_zeroCells, Value.cells]; omega) zone1_Int ?_; intro w5 h5; have H5 := Lib.hid h5; clear h5)
    go_ret
    refine ⟨_, rfl, H5.out.row_own (by omega) hcm' (by rw [lay_len _ _ _ (by simp [size_zeroCells, Value.cells]; omega)]; exact hcz) ?_ ?_⟩
    · unfold lay
      rw [List.append_assoc, List.take_append_of_le_length (by rw [List.length_take]; omega), HYS.out, ← HCT.out, List.take_take]
      congr 1
      omega
    · intro u hu
      rw [HYS.out] at hu
      exact (List.mem_append.1 hu).elim (fun h => HC1.out u (List.mem_of_mem_take h)) (fun h => HC1.out u (List.mem_of_mem_drop h))
  · have hrd := HRD.out (i + 1) (fun _ => rfl)
    have HR := Lib.hid hrd
    clear hrd HRD
    refine wp_region_canon [(0, false, 6), (1, false, 6), (2, false, 6), (3, false, 6), (4, false, 6), (5, false, 6), (6, true, 0), (7, false, 999)] (by kernel_rfl) (by kernel_rfl) ?_
    iterate 6 (refine wpCan_read rfl rfl (fun K hK => ?_); go_simp; refine hK _ ?_; clear hK K)
    refine wpCan_eff rfl ?_
    refine wpList_append_room_Sat _ rfl _ _ 58 rfl 3 i0 1 Try.underlying58 HI.out.1 HI.out.2.2.1 g i _ _ rfl HC.out (.slice (some ⟨g, (i + 1), none⟩) (n - i) (cap - (i + 1))) (n - i) _ rfl HR.out HFREE.out (by omega) ?_
    intro w3 h3
    rw [show i + (n - i) = n by omega] at h3 ⊢
    obtain ⟨cur, h4, _, _, hcz, hct, _, hcl⟩ := h3.own_row
    have H4 := Lib.hid h4
    have HCT := Lib.hid hct
    clear h3 h4 hct hcl HC HR
    refine wpList_nil ?_
    refine And.intro ?_ ?_
    · go_simp
    iterate 1 (refine wpCan_read rfl rfl (fun K hK => ?_); go_simp; refine hK _ ?_; clear hK K)
    refine wpCan_nil ?_
    go_wp2_with (show wpList _ _ _ (⟨none, .call _, _, _, _, _⟩ :: _) _ _; refine wpList_clear_Sat _ rfl _ 58 rfl 3 _ Try.underlying58 (fun w => zeros_Int w) g _ 1 _ rfl cur H4.out (by omega) (by simp [size_zeroCells, Value.cells]; omega) zone1_Int ?_; intro w5 h5; have H5 := Lib.hid h5; clear h5)
    go_ret
    refine ⟨_, rfl, H5.out.row_own (by omega) hcm' (by rw [lay_len _ _ _ (by simp [size_zeroCells, Value.cells]; omega)]; exact hcz) ?_ ?_⟩
    · unfold lay
      rw [List.append_assoc, List.take_append_of_le_length (by rw [List.length_take]; omega), HYS.out, ← HCT.out, List.take_take]
      congr 1
      omega
    · intro u hu
      rw [HYS.out] at hu
      exact (List.mem_append.1 hu).elim (fun h => HC1.out u (List.mem_of_mem_take h)) (fun h => HC1.out u (List.mem_of_mem_drop h))
end Go.Proofs.Ytjijemeabfiipaa
