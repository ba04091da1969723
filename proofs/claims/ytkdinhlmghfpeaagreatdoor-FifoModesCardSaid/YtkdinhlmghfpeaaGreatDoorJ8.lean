/- Joined texts: Insert, Delete over a queue's entries. (printed by genq.py) Giving. (printed by genq.py) -/
import Derived.Test.YtkdinhlmghfpeaaGreatDoorJ6
import Derived.Test.YtkdinhlmghfpeaaGreatDoorJ7
/- Insert, Delete over a queue's entries. (printed by genq.py) -/
namespace Go.Proofs.YtkdinhlmghfpeaaGreatDoor
open Go.ChangeShapes Go.WideShapes Go.ChangeAt Go.RowKit
set_option maxRecDepth 100000
set_option linter.unusedSimpArgs false


theorem infoM : (Tryz.prog.info? tEnM).map (fun i => (i.zero, i.size, i.bytes)) = some (some (.agg #[.int .i64 0, .int .i64 0, .bool false]), 3, 24) := by kernel_rfl
theorem zone1_M : ∀ u ∈ (Builtin.zeroCells (Value.agg #[.int .i64 0, .int .i64 0, .bool false]).cells 1).toList, u.oneCell' = true := zeroCells_mem zone_M 1

set_option maxHeartbeats 2000000 in
theorem insert_end_M {B w : World} {D : PH} {l : List HP} {v : Value} {n : Nat} {xs xc : List Value} (hxc : xc.length = 3) (hx1 : ∀ u ∈ xc, u.oneCell' = true) (bx : Nat) (hb : (n + 1) * 24 ≤ 140737488355328) (hs : Sat B D w (ownS 74 3 v n xs :: blk bx xc.toArray 74 :: l)) :
    Calls Tryz.prog 85 #[v, .int .i64 n, .slice (some ⟨bx, 0, none⟩) 1 1] w fun e w' => ∃ v', e = .returned v' ∧ Sat B D w' (ownS 74 3 v' (n + 1) (xs ++ xc) :: blk bx xc.toArray 74 :: l) := by
  obtain ⟨i0, hi, hz0, hz1, hz2⟩ := info_parts infoM
  have hle := (hs.own 0 rfl).le
  obtain ⟨ao, cap, hv, hnc, hcm, _⟩ := (hs.own 0 rfl).rd.2.2
  subst hv
  have hrd := rd_block (size := 3) (n := 1) (hs.blk 1 rfl) (by simpa using hxc) (by unfold maxLen; omega)
  unfold maxLen at hle hcm
  have HS := Lib.hid hs
  have HR := Lib.hid hrd
  have HI := Lib.hid (And.intro hi (And.intro hz0 (And.intro hz1 hz2)))
  clear hi hz0 hz1 hz2 hs hrd
  have hm1 : ¬ ((1 : Int) = 0) := by omega
  go_enter Tryz.func85, Tryz.ntmps85
  go_wp2_with (at_builtin; refine wpList_append_Sat _ rfl _ _ 69 rfl 74 i0 _ 3 24 Tryz.underlying69 HI.out.1 HI.out.2.1 HI.out.2.2.1 HI.out.2.2.2 rfl _ n xs rfl HS.out _ 1 _ rfl HR.out (by simpa using hx1) (by unfold maxLen; omega) (by omega) ?_; intro v' w' h1 h2; have H1 := Lib.hid h1; clear h1 h2)
  all_goals
    go_ret
    exact ⟨_, rfl, by simpa using H1.out⟩

theorem overlaps_M {w : World} {bx g : Nat} {xc cur : Array Value} (h1 : w.heap[bx]? = some (.cells xc 74 (0, 0))) (h2 : w.heap[g]? = some (.cells cur 74 (0, 0))) (hne : bx ≠ g) (hc : cur.size ≠ 0) (la ca lb cb off : Nat) :
    (callFunc 121 #[.slice (some ⟨bx, 0, none⟩) la ca, .slice (some ⟨g, off, none⟩) lb cb]).run Tryz.prog w = .ok (.value (.bool false)) w := by
  rw [run_callFunc_extern Tryz.func121 (by kernel_rfl) (by kernel_rfl) (by kernel_rfl) (e := Extern.SlicesOverlaps.overlaps #[69, 69] #[4]) (by kernel_rfl),
    Lib.run_overlaps_apart w 69 4 74 Tryz.underlying69 3 (fun w => Tryz.sizeOf74 w) ⟨bx, 0, none⟩ ⟨g, off, none⟩ la ca lb cb hne 74 74 xc.size cur.size (by simp [World.shape?, h1]) (by simp [World.shape?, h2]) hc (by simp [World.frozen?, h1]) (by simp [World.frozen?, h1])]
  rfl

set_option maxHeartbeats 2000000 in
theorem insert_room_M {B w : World} {D : PH} {l : List HP} {g n cap i : Nat} {xs xc ys : List Value} (hys : ys = xs.take (i * 3) ++ xc ++ xs.drop (i * 3)) (hin : i < n) (hroom : n + 1 ≤ cap) (hxc : xc.length = 3) (hx1 : ∀ u ∈ xc, u.oneCell' = true) (bx : Nat) (hs : Sat B D w (ownS 74 3 (.slice (some ⟨g, 0, none⟩) n cap) n xs :: blk bx xc.toArray 74 :: l)) :
    Calls Tryz.prog 85 #[.slice (some ⟨g, 0, none⟩) n cap, .int .i64 i, .slice (some ⟨bx, 0, none⟩) 1 1] w fun e w' => ∃ v', e = .returned v' ∧ Sat B D w' (ownS 74 3 v' (n + 1) ys :: blk bx xc.toArray 74 :: l) := by
  obtain ⟨cur, h1, hnc, hcm, hcz, hct, hc1, hxl⟩ := hs.own_row
  have hne := h1.ne 1 0 (by omega) rfl rfl
  have hsz0 : cur.toArray.size = cur.length := by simp
  have hov := overlaps_M (h1.blk 1 rfl) (h1.blk 0 rfl) hne (by omega)
  have HS := Lib.hid h1.drew
  have HCT := Lib.hid hct
  have HC1 := Lib.hid hc1
  have HXL := Lib.hid hxl
  have HXC := Lib.hid hxc
  have HYS := Lib.hid hys
  have hcm' := hcm
  unfold maxLen at hcm'
  have hrd1 : Rd w.drew 3 (.slice (some ⟨g, (i * 3), none⟩) (n + 1 - i) (cap - i)) (n + 1 - i) ((cur.drop (i * 3)).take ((n + 1 - i) * 3)) := by
    refine ⟨by rw [List.length_take, List.length_drop]; omega, by omega, _, _, rfl, by omega, by omega, (fun h => by cases h), .inr ⟨g, _, rfl, fun j u hu => ?_⟩⟩
    rw [cell_of_row _ g _ _ _ _ h1.drew.heap_blk]
    rw [List.getElem?_take] at hu
    split at hu
    · rw [List.getElem?_drop] at hu; simpa using hu
    · cases hu
  have HRD := Lib.hid hrd1
  have HCS := Lib.hid (show (((cur.drop (i * 3)).take ((n + 1 - i) * 3)).take ((n - i) * 3)) = xs.drop (i * 3) by
    rw [List.take_take, Nat.min_eq_left (by omega), ← hct, List.drop_take]
    congr 1
    omega)
  have hfree : ∀ u ∈ xs.drop (i * 3), u.oneCell' = true := fun u hu => hc1 u (List.mem_of_mem_drop hu)
  have HONE := Lib.hid hfree
  clear hs h1 hct hc1 hxl hxc hys hrd1 hsz0 hfree
  have hm1 : ¬ ((1 : Int) = 0) := by omega
  have hin' : ¬ ((i : Int) = (n : Int)) := by omega
  have hw1 : IntKind.i64.wrap ((i : Int) + 1) = (i : Int) + 1 := IntWalk.i64_in _ (by omega)
  have hw2 : IntKind.i64.wrap ((n : Int) + 1) = (n : Int) + 1 := IntWalk.i64_in _ (by omega)
  have htn : ((i : Int) + 1).toNat = i + 1 := by omega
  have hb1 : (0 : Int) ≤ (i : Int) + 1 := by omega
  have hb2 : ¬ (cap = i + 1) := by omega
  have hin2 : i ≤ n := by omega
  have hb3 : (i : Int) ≤ (n : Int) + 1 := by omega
  have hb5 : i ≤ n + 1 := by omega
  have hb4 : ¬ (cap = i) := by omega
  go_enter Tryz.func85, Tryz.ntmps85
  go_wp2_with (simp only [hov])
  refine wp_region_canon [(0, false, 8), (1, false, 8), (2, false, 8), (3, false, 8), (4, false, 8), (5, false, 8), (6, false, 8), (7, false, 8), (8, true, 0)] (by kernel_rfl) (by kernel_rfl) ?_
  iterate 8 (refine wpCan_read rfl rfl (fun K hK => ?_); go_simp; refine hK _ ?_; clear hK K)
  refine wpCan_eff rfl ?_
  refine wpList_copy_Sat _ rfl _ _ 69 69 rfl 74 3 Tryz.underlying69 (fun w => Tryz.sizeOf74 w) g _ _ _ rfl cur HS.out _ _ (n - i) _ (xs.drop (i * 3)) rfl HRD.out (by omega) HCS.out (by omega) HONE.out ?_
  intro w2 h2
  have HS2 := Lib.hid h2
  clear h2 HS HRD HONE hov
  refine wpList_nil ?_
  refine And.intro ?_ ?_
  · go_simp
  refine wpCan_nil ?_
  have hrd := rd_block (size := 3) (n := 1) (HS2.out.blk 1 rfl) (by simpa using HXC.out) (by unfold maxLen; omega)
  have hlen2 := lay_len cur ((i + 1) * 3) (xs.drop (i * 3)) (by rw [List.length_drop, HXL.out]; omega)
  have HRX := Lib.hid hrd
  have HL2 := Lib.hid hlen2
  clear hrd hlen2
  go_wp2_with (show wpList _ _ _ (⟨some 82, _, _, _, _, _⟩ :: _) _ _; refine wpList_copy_Sat _ rfl _ _ 69 69 rfl 74 3 Tryz.underlying69 (fun w => Tryz.sizeOf74 w) g _ _ _ rfl _ HS2.out _ _ 1 _ xc rfl HRX.out (by omega) (by rw [List.take_of_length_le (by simp [HXC.out])]) (by rw [HL2.out]; omega) (by simpa using hx1) ?_; intro w3 h3; have HS3 := Lib.hid h3; clear h3)
  go_ret
  refine ⟨_, rfl, HS3.out.row_own (by omega) hcm (by rw [lay_len _ _ _ (by rw [HL2.out, HXC.out]; omega), HL2.out]; exact hcz) ?_ ?_⟩
  · have e := lay_insert cur xs xc (i * 3) 3 (n * 3) HCT.out (by omega) HXC.out (by omega)
    have o1 : ((i + 1) * 3) = i * 3 + 3 := by omega
    have o2 : (i * 3) = i * 3 := by omega
    have o3 : (n + 1) * 3 = n * 3 + 3 := by omega
    rw [HYS.out, o3, o1]
    first | exact e | (simp only [Nat.mul_one] at e ⊢; exact e)
  · intro u hu
    rw [HYS.out] at hu
    rcases List.mem_append.1 hu with hu | hu
    · rcases List.mem_append.1 hu with hu | hu
      · exact HC1.out u (List.mem_of_mem_take hu)
      · exact hx1 u hu
    · exact HC1.out u (List.mem_of_mem_drop hu)

set_option maxHeartbeats 2000000 in
theorem insert_grow_M {B w : World} {D : PH} {l : List HP} {g n cap i : Nat} {xs xc ys : List Value} (hys : ys = xs.take (i * 3) ++ xc ++ xs.drop (i * 3)) (hin : i < n) (hroom : cap < n + 1) (hxc : xc.length = 3) (hx1 : ∀ u ∈ xc, u.oneCell' = true) (bx : Nat) (hb : (n + 1) * 24 ≤ 140737488355328)
    (hs : Sat B D w (ownS 74 3 (.slice (some ⟨g, 0, none⟩) n cap) n xs :: blk bx xc.toArray 74 :: l)) :
    Calls Tryz.prog 85 #[.slice (some ⟨g, 0, none⟩) n cap, .int .i64 i, .slice (some ⟨bx, 0, none⟩) 1 1] w fun e w' => ∃ v', e = .returned v' ∧ Sat B D w' (ownS 74 3 v' (n + 1) ys :: blk bx xc.toArray 74 :: l) := by
  obtain ⟨i0, hi, hz0, hz1, hz2⟩ := info_parts infoM
  have ho := hs.own 0 rfl
  have hle := ho.le
  obtain ⟨_, _, hv, hnc, hcm, _⟩ := ho.rd.2.2
  cases hv
  have hxl := ho.1
  have hc1 := ho.2.1
  unfold maxLen at hle hcm
  have holds : ∀ j v, (xs.take (i * 3))[j]? = some v → w.cell? ((⟨g, 0, none⟩ : Addr).add j) = some v := fun j v hj => by
    rw [add_none, Nat.zero_add]
    rw [List.getElem?_take] at hj
    split at hj
    · exact ho.cells j v hj
    · cases hj
  have HS := Lib.hid hs
  have HI := Lib.hid (And.intro hi (And.intro hz0 (And.intro hz1 hz2)))
  have HOLDS := Lib.hid holds
  have HXL := Lib.hid hxl
  have HC1 := Lib.hid hc1
  have HXC := Lib.hid hxc
  have HYS := Lib.hid hys
  clear hs hi hz0 hz1 hz2 holds hxl hc1 hxc hys ho
  have hm1 : ¬ ((1 : Int) = 0) := by omega
  have hin' : ¬ ((i : Int) = (n : Int)) := by omega
  have hcc : (cap : Int) < (n : Int) + 1 := by omega
  have hw1 : IntKind.i64.wrap ((i : Int) + 1) = (i : Int) + 1 := IntWalk.i64_in _ (by omega)
  have hw2 : IntKind.i64.wrap ((n : Int) + 1) = (n : Int) + 1 := IntWalk.i64_in _ (by omega)
  have hw3 : IntKind.i64.wrap ((n : Int) + 1 - (i : Int)) = (n : Int) + 1 - (i : Int) := IntWalk.i64_in _ (by omega)
  have htn : ((i : Int) + 1).toNat = i + 1 := by omega
  have hb1 : (0 : Int) ≤ (i : Int) + 1 := by omega
  have hb4 : ¬ (cap = i) := by omega
  have hin2 : i ≤ n := by omega
  have hb3 : (i : Int) ≤ (n : Int) + 1 := by omega
  have hb5 : i ≤ n + 1 := by omega
  go_enter Tryz.func85, Tryz.ntmps85
  go_upto_region 10 with (show wpList _ _ _ (⟨some 40, _, _, _, _, _⟩ :: _) _ _; refine wpList_append_zeros_Sat _ rfl _ _ 69 3 rfl 74 i0 _ 3 24 Tryz.underlying69 Tryz.underlying3 HI.out.1 HI.out.2.1 HI.out.2.2.1 HI.out.2.2.2 rfl zone_M ⟨g, 0, none⟩ i cap rfl _ (by rw [List.length_take, HXL.out]; omega) HOLDS.out (fun u hu => HC1.out u (List.mem_of_mem_take hu)) (n + 1 - i) (by simp [Act.eval]; omega) (by omega) (by omega) (by unfold maxLen; omega) (by omega) HS.out ?_; intro w2 g2 cap2 zs hzs hcap2 h2; rw [show i + (n + 1 - i) = n + 1 by omega] at h2 hcap2; have H2 := Lib.hid h2; have HZS := Lib.hid hzs; clear h2 hzs)
  obtain ⟨cur, h1, _, hcm2, hcz, hct, hc2, hcl⟩ := H2.out.own_row
  have hrx := rd_block (size := 3) (n := 1) (h1.blk 2 rfl) (by simpa using HXC.out) (by unfold maxLen; omega)
  have hg1 : ¬ (cap2 = i) := by omega
  have hg2 : ¬ (cap2 = i + 1) := by omega
  have H1 := Lib.hid h1
  have HRX := Lib.hid hrx
  have HCT := Lib.hid hct
  have HCM := Lib.hid hcm2
  clear h1 hrx hct hc2 hcl H2 HOLDS HI HS
  unfold maxLen at hcm2
  go_upto_region 11 with (show wpList _ _ _ (⟨some 45, _, _, _, _, _⟩ :: _) _ _; refine wpList_copy_Sat _ rfl _ _ 69 69 rfl 74 3 Tryz.underlying69 (fun w => Tryz.sizeOf74 w) g2 _ _ _ rfl _ H1.out _ _ 1 _ xc rfl HRX.out (by omega) (by rw [List.take_of_length_le (by simp [HXC.out])]) (by omega) (by simpa using hx1) ?_; intro w3 h3; have HS3 := Lib.hid h3; clear h3)
  have hlen2 := lay_len cur (i * 3) xc (by rw [HXC.out]; omega)
  have hrd1 : Rd w3.drew 3 (.slice (some ⟨g, (i * 3), none⟩) (n - i) (cap - i)) (n - i) (xs.drop (i * 3)) := by
    refine ⟨by rw [List.length_drop, HXL.out]; omega, by unfold maxLen; omega, _, _, rfl, by omega, by unfold maxLen; omega, (fun h => by cases h), .inr ⟨g, _, rfl, fun j u hu => ?_⟩⟩
    rw [List.getElem?_drop] at hu
    have := (HS3.out.own 1 rfl).cells _ u hu
    simpa using this
  have HS4 := Lib.hid HS3.out.drew
  have HRD := Lib.hid hrd1
  have HL2 := Lib.hid hlen2
  have HCS := Lib.hid (show (xs.drop (i * 3)).take ((n - i) * 3) = xs.drop (i * 3) by rw [List.take_of_length_le (by rw [List.length_drop, HXL.out]; omega)])
  have HFREE := Lib.hid (show ∀ u ∈ xs.drop (i * 3), u.oneCell' = true from fun u hu => HC1.out u (List.mem_of_mem_drop hu))
  clear hrd1 hlen2 H1 HRX HS3
  refine wp_region_canon [(0, false, 8), (1, false, 8), (2, false, 8), (3, false, 8), (4, false, 8), (5, false, 8), (6, false, 8), (7, false, 8), (8, true, 0)] (by kernel_rfl) (by kernel_rfl) ?_
  iterate 8 (refine wpCan_read rfl rfl (fun K hK => ?_); go_simp; refine hK _ ?_; clear hK K)
  refine wpCan_eff rfl ?_
  refine wpList_copy_Sat _ rfl _ _ 69 69 rfl 74 3 Tryz.underlying69 (fun w => Tryz.sizeOf74 w) g2 _ _ _ rfl _ HS4.out _ _ (n - i) _ (xs.drop (i * 3)) rfl HRD.out (by omega) HCS.out (by rw [HL2.out]; omega) HFREE.out ?_
  intro w5 h5
  have HS5 := Lib.hid (h5.swap.drop)
  have H5 := Lib.hid h5
  clear h5 HS4 HRD HFREE HS5
  refine wpList_nil ?_
  refine And.intro ?_ ?_
  · go_simp
  refine wpCan_nil ?_
  go_wp2_with fail
  go_ret
  have hrow := H5.out.row_own (n := n + 1) (cap := cap2) (size := 3) (xs := ys) (by omega) HCM.out (by rw [lay_len _ _ _ (by rw [HL2.out, List.length_drop, HXL.out]; omega), HL2.out]; exact hcz) ?_ ?_
  · exact ⟨_, rfl, hrow.swap.drop⟩
  · have o1 : ((i + 1) * 3) = i * 3 + 3 := by omega
    have o3 : (n + 1) * 3 = n * 3 + 3 := by omega
    have hct' := HCT.out
    rw [o3] at hct'
    have e := lay_insert2 cur xs xc zs (i * 3) 3 (n * 3) hct' HXL.out (by omega) HXC.out
    rw [HYS.out, o3, o1]
    first | exact e | (simp only [Nat.mul_one] at e ⊢; exact e)
  · intro u hu
    rw [HYS.out] at hu
    rcases List.mem_append.1 hu with hu | hu
    · rcases List.mem_append.1 hu with hu | hu
      · exact HC1.out u (List.mem_of_mem_take hu)
      · exact hx1 u hu
    · exact HC1.out u (List.mem_of_mem_drop hu)

theorem insert_M {B w : World} {D : PH} {l : List HP} {v : Value} {n i : Nat} {xs xc : List Value} (hin : i ≤ n) (hxc : xc.length = 3) (hx1 : ∀ u ∈ xc, u.oneCell' = true) (bx : Nat) (hb : (n + 1) * 24 ≤ 140737488355328)
    (hs : Sat B D w (ownS 74 3 v n xs :: blk bx xc.toArray 74 :: l)) :
    Calls Tryz.prog 85 #[v, .int .i64 i, .slice (some ⟨bx, 0, none⟩) 1 1] w fun e w' => ∃ v', e = .returned v' ∧ Sat B D w' (ownS 74 3 v' (n + 1) (xs.take (i * 3) ++ xc ++ xs.drop (i * 3)) :: blk bx xc.toArray 74 :: l) := by
  have hxl := (hs.own 0 rfl).1
  by_cases h : i = n
  · subst h
    have := insert_end_M hxc hx1 bx hb hs
    rw [List.take_of_length_le (by omega), List.drop_of_length_le (by omega), List.append_nil]
    exact this
  · obtain ⟨g, cap, rfl, hnc, hcm⟩ := (hs.own 0 rfl).form (by omega)
    by_cases hroom : n + 1 ≤ cap
    · exact insert_room_M rfl (by omega) hroom hxc hx1 bx hs
    · exact insert_grow_M rfl (by omega) (by omega) hxc hx1 bx hb hs

theorem zeros_M (w : World) : (zeroValue 74).run Tryz.prog w = .ok (.agg #[.int .i64 0, .int .i64 0, .bool false]) w := Tryz.zeroValue74 w
set_option maxHeartbeats 2000000 in
theorem delete_M {B w : World} {D : PH} {l : List HP} {v : Value} {n i : Nat} {xs ys : List Value} (hys : ys = xs.take (i * 3) ++ xs.drop ((i + 1) * 3)) (hin : i ≤ n) (hs : Sat B D w (ownS 74 3 v (n + 1) xs :: l)) :
    Calls Tryz.prog 134 #[v, .int .i64 i, .int .i64 (i + 1)] w fun e w' => ∃ v', e = .returned v' ∧ Sat B D w' (ownS 74 3 v' n ys :: l) := by
  obtain ⟨i0, hi, hz0, hz1, hz2⟩ := info_parts infoM
  obtain ⟨g, cap, rfl, hnc, hcm⟩ := (hs.own 0 rfl).form (by omega)
  have ho := hs.own 0 rfl
  have hxl := ho.1
  have hc1 := ho.2.1
  have hcm' := hcm
  unfold maxLen at hcm
  have hcut := (hs.own_cut (m := i) (c := cap) (by omega) (by omega) (by omega)).drew
  have hrd1 : ∀ o, (i + 1 < cap → o = ((i + 1) * 3)) → Rd w.drew 3 (.slice (some ⟨g, o, none⟩) (n - i) (cap - (i + 1))) (n - i) (xs.drop ((i + 1) * 3)) := fun o ho' => by
    refine ⟨by rw [List.length_drop, hxl, ← Nat.sub_mul]; congr 1; omega, by unfold maxLen; omega, _, _, rfl, by omega, by unfold maxLen; omega, (fun h => by cases h), ?_⟩
    by_cases hc : n - i = 0
    · exact .inl hc
    · refine .inr ⟨g, _, rfl, fun j u hu => ?_⟩
      rw [ho' (by omega)]
      rw [List.getElem?_drop] at hu
      have := ho.cells _ u hu
      simpa using this
  have HC := Lib.hid hcut
  have HRD := Lib.hid hrd1
  have HI := Lib.hid (And.intro hi (And.intro hz0 (And.intro hz1 hz2)))
  have HXL := Lib.hid hxl
  have HC1 := Lib.hid hc1
  have HYS := Lib.hid hys
  have HFREE := Lib.hid (show ∀ u ∈ xs.drop ((i + 1) * 3), u.oneCell' = true from fun u hu => hc1 u (List.mem_of_mem_drop hu))
  clear hs ho hxl hc1 hcut hrd1 hi hz0 hz1 hz2 hys
  have hij : ¬ ((i : Int) = (i : Int) + 1) := by omega
  have htn : ((i : Int) + 1).toNat = i + 1 := by omega
  have hb0 : (0 : Int) ≤ (i : Int) + 1 := by omega
  have hb1 : (i : Int) ≤ (i : Int) + 1 := by omega
  have hb2 : (i : Int) + 1 ≤ (n : Int) + 1 := by omega
  have hb3 : (n : Int) + 1 ≤ (cap : Int) := by omega
  have hb4 : (i : Int) ≤ (cap : Int) := by omega
  have hb5 : i ≤ cap := by omega
  have hb7 : ¬ (cap = n) := by omega
  go_enter Tryz.func134, Tryz.ntmps134
  go_upto_region 5 with (fail)
  by_cases hci : cap = i + 1
  · have hrd := HRD.out 0 (by omega)
    have HR := Lib.hid hrd
    clear hrd HRD
    subst hci
    obtain rfl : n = i := by omega
    refine wp_region_canon [(0, false, 6), (1, false, 6), (2, false, 6), (3, false, 6), (4, false, 6), (5, false, 6), (6, true, 0), (7, false, 999)] (by kernel_rfl) (by kernel_rfl) ?_
    iterate 6 (refine wpCan_read rfl rfl (fun K hK => ?_); go_simp; refine hK _ ?_; clear hK K)
    refine wpCan_eff rfl ?_
    refine wpList_append_room_Sat _ rfl _ _ 69 rfl 74 i0 3 Tryz.underlying69 HI.out.1 HI.out.2.2.1 g n _ _ rfl HC.out (.slice (some ⟨g, 0, none⟩) 0 0) 0 _ rfl (by simpa using HR.out) HFREE.out (by omega) ?_
    intro w3 h3
    rw [Nat.add_zero] at h3 ⊢
    obtain ⟨cur, h4, _, _, hcz, hct, _, hcl⟩ := h3.own_row
    have H4 := Lib.hid h4
    have HCT := Lib.hid hct
    clear h3 h4 hct hcl HC HR
    refine wpList_nil ?_
    refine And.intro ?_ ?_
    · go_simp
    iterate 1 (refine wpCan_read rfl rfl (fun K hK => ?_); go_simp; refine hK _ ?_; clear hK K)
    refine wpCan_nil ?_
    go_wp2_with (show wpList _ _ _ (⟨none, .call _, _, _, _, _⟩ :: _) _ _; refine wpList_clear_Sat _ rfl _ 69 rfl 74 _ Tryz.underlying69 (fun w => zeros_M w) g _ 1 _ rfl cur H4.out (by omega) (by simp [size_zeroCells, Value.cells]; omega) zone1_M ?_; intro w5 h5; have H5 := Lib.hid h5; clear h5)
    go_ret
    refine ⟨_, rfl, H5.out.row_own (by omega) hcm' (by rw [lay_len _ _ _ (by simp [size_zeroCells, Value.cells]; omega)]; exact hcz) ?_ ?_⟩
    · unfold lay
      rw [List.append_assoc, List.take_append_of_le_length (by rw [List.length_take]; omega), HYS.out, ← HCT.out, List.take_take]
      congr 1
      omega
    · intro u hu
      rw [HYS.out] at hu
      exact (List.mem_append.1 hu).elim (fun h => HC1.out u (List.mem_of_mem_take h)) (fun h => HC1.out u (List.mem_of_mem_drop h))
  · have hrd := HRD.out ((i + 1) * 3) (fun _ => rfl)
    have HR := Lib.hid hrd
    clear hrd HRD
    refine wp_region_canon [(0, false, 6), (1, false, 6), (2, false, 6), (3, false, 6), (4, false, 6), (5, false, 6), (6, true, 0), (7, false, 999)] (by kernel_rfl) (by kernel_rfl) ?_
    iterate 6 (refine wpCan_read rfl rfl (fun K hK => ?_); go_simp; refine hK _ ?_; clear hK K)
    refine wpCan_eff rfl ?_
    refine wpList_append_room_Sat _ rfl _ _ 69 rfl 74 i0 3 Tryz.underlying69 HI.out.1 HI.out.2.2.1 g i _ _ rfl HC.out (.slice (some ⟨g, ((i + 1) * 3), none⟩) (n - i) (cap - (i + 1))) (n - i) _ rfl HR.out HFREE.out (by omega) ?_
    intro w3 h3
    rw [show i + (n - i) = n by omega] at h3 ⊢
    obtain ⟨cur, h4, _, _, hcz, hct, _, hcl⟩ := h3.own_row
    have H4 := Lib.hid h4
    have HCT := Lib.hid hct
    clear h3 h4 hct hcl HC HR
    refine wpList_nil ?_
    refine And.intro ?_ ?_
    · go_simp
    iterate 1 (refine wpCan_read rfl rfl (fun K hK => ?_); go_simp; refine hK _ ?_; clear hK K)
    refine wpCan_nil ?_
    go_wp2_with (show wpList _ _ _ (⟨none, .call _, _, _, _, _⟩ :: _) _ _; refine wpList_clear_Sat _ rfl _ 69 rfl 74 _ Tryz.underlying69 (fun w => zeros_M w) g _ 1 _ rfl cur H4.out (by omega) (by simp [size_zeroCells, Value.cells]; omega) zone1_M ?_; intro w5 h5; have H5 := Lib.hid h5; clear h5)
    go_ret
    refine ⟨_, rfl, H5.out.row_own (by omega) hcm' (by rw [lay_len _ _ _ (by simp [size_zeroCells, Value.cells]; omega)]; exact hcz) ?_ ?_⟩
    · unfold lay
      rw [List.append_assoc, List.take_append_of_le_length (by rw [List.length_take]; omega), HYS.out, ← HCT.out, List.take_take]
      congr 1
      omega
    · intro u hu
      rw [HYS.out] at hu
      exact (List.mem_append.1 hu).elim (fun h => HC1.out u (List.mem_of_mem_take h)) (fun h => HC1.out u (List.mem_of_mem_drop h))
end Go.Proofs.YtkdinhlmghfpeaaGreatDoor

/- Giving. (printed by genq.py) -/
namespace Go.Proofs.YtkdinhlmghfpeaaGreatDoor
open Go.ChangeShapes Go.WideShapes Go.ChangeAt Go.RowKit
set_option maxRecDepth 100000
set_option linter.unusedSimpArgs false


set_option maxHeartbeats 4000000 in
theorem give_M {B w : World} {D D' : PH} {l : List HP} {q : Nat} {Q : Qm Int} (e : Ent Int) (hlen : Q.held.length ≤ 100000)
    (h : Sat B D w (queM D' q Q :: l)) :
    Calls Tryz.prog 84 #[.pointer (some ⟨q, 0, none⟩), .agg (cellsM e).toArray] w fun r w' => r = .returned (.tuple #[]) ∧ Sat B D w' (queM D' q (giveQ RM Q (entM e)) :: l) := by
  obtain ⟨i0, hi, hz0, hz1, hz2⟩ := info_parts infoM
  have HI := Lib.hid (And.intro hi (And.intro hz0 (And.intro hz1 hz2)))
  obtain ⟨W1, hW1, hs1⟩ := Sat.hide (h.alloc (cellsM (lessM e)).toArray tEnM)
  have HW1 := Lib.hid hW1
  have HS1 := Lib.hid hs1.swap
  clear h hs1 hW1 hi hz0 hz1 hz2
  go_enter Tryz.func84, Tryz.ntmps84
  go_upto_region 2 with fail
  simp only [less_arrM]
  rw [← HW1.out]
  clear HW1
  generalize w.heap.size = bx at HS1 ⊢
  obtain ⟨x0, x1, x2⟩ := boxM (HS1.out.blk 1 rfl)
  go_upto_region 3 with (go_at_call 81; refine (own_M _ _ HS1.out).mono ?_; rintro e1 w1 ⟨rfl, hk1⟩; have HS2 := Lib.hid (HS1.out.kept hk1); clear hk1 HS1 x0 x1 x2)
  rcases own_cases (R := RM) Q.held (entM e).o (entM e).c with ⟨k, ho, hk, hlt⟩ | ⟨ho, hk⟩
  · have HG := Lib.hid (giveL_some ho)
    have HK := Lib.hid hk
    rw [show idxI (sameE RM (lessM e).o (lessM e).c) Q.held = (k : Int) from hk]
    clear ho hk
    obtain ⟨hv, wv, hs, ws, hr1, hr2, h2⟩ := queOpen_M HS2.out
    obtain ⟨ha, hc2, rfl⟩ := (h2.front 1 rfl).own_shape
    have hll : hs.length = Q.held.length := by rw [← hr1.1, List.length_map]
    have hkn : k < hs.length := by omega
    obtain ⟨g, rfl⟩ : ∃ g, ha = some ⟨g, 0, none⟩ := by
      rcases (h2.own 1 rfl).2.2 with ⟨h1, h3⟩ | ⟨g, c2, cur, h1, _⟩
      · omega
      · cases h1; exact ⟨g, rfl⟩
    have HL := Lib.hid (loadM (blk_range (h2.drew.blk 3 rfl)))
    obtain ⟨c0, c1, c2, c3, c4, c5, cf⟩ := cells6 (h2.blk 0 rfl)
    have HR1 := Lib.hid hr1
    have HR2 := Lib.hid hr2
    have HS3 := Lib.hid (show Sat B D w1 (ownS tEnM 3 (.slice (some ⟨g, 0, none⟩) hs.length hc2) hs.length (hs.flatMap cellsM) :: qbM q (.slice (some ⟨g, 0, none⟩) hs.length hc2) wv :: entsM wv ws :: blk bx (cellsM (lessM e)).toArray tEnM :: l) from h2.front 1 rfl)
    generalize hN : hs.length = N at *
    have HN := Lib.hid hN
    clear h2 hr1 hr2 hN HS2 hll
    have hkN : (k : Int) < (N : Int) := by omega
    go_upto_region 4 with fail
    refine wp_region_canon [(0, false, 7), (1, false, 7), (2, false, 7), (3, false, 7), (4, false, 7), (5, false, 7), (6, false, 7), (7, true, 0)] (by kernel_rfl) (by kernel_rfl) ?_
    iterate 7 (refine wpCan_read rfl rfl (fun K hK => ?_); (first | ((refine still_ld _ _ rfl _ _ rfl _ HL.out ?_); go_simp) | go_simp); refine hK _ ?_; clear hK K)
    refine wpCan_eff rfl ?_
    refine wpList_store_elem lenM oneM rfl _ _ _ rfl tEnM g _ k N hc2 rfl (by omega) (lessM e) rfl hs HS3.out.drew (by kernel_rfl) hkn HN.out ?_
    intro w5 hs5
    have HS5 := Lib.hid hs5
    clear hs5 HS3 HL c0 c1 c2 c3 c4 c5 cf
    refine wpList_nil ?_
    refine And.intro ?_ ?_
    · go_simp
    refine wpCan_nil ?_
    simp only [Act.put, List.setIfInBounds_toArray, List.set_cons_succ, List.set_cons_zero, List.getElem_toArray, List.getElem_cons_succ, List.getElem_cons_zero]
    go_wp2_with fail
    refine bodyPost_ret (results_none rfl _ _ _) rfl ?_
    refine ⟨rfl, ?_⟩
    have h6 := HS5.out.swap
    have h7 : Sat B D w5 (qbM q (.slice (some ⟨g, 0, none⟩) N hc2) wv :: entsM (.slice (some ⟨g, 0, none⟩) N hc2) (hs.set k (lessM e)) :: entsM wv ws :: blk bx (cellsM (lessM e)).toArray tEnM :: l) := by
      show Sat B D w5 (qbM q _ _ :: ownS tEnM 3 _ (hs.set k (lessM e)).length _ :: _)
      rw [List.length_set, HN.out]
      exact h6
    refine (queShut_M (Q := giveQ RM Q (entM e)) ⟨?_, ?_⟩ HR2.out h7).swap.drop
    · show _ = giveL RM Q.held (entM e)
      rw [HG.out, List.map_set, HR1.out.1]
      all_goals rfl
    · intro x hx
      rcases List.mem_or_eq_of_mem_set hx with hx | rfl
      · exact HR1.out.2 x hx
      · exact trivial
  · have HG := Lib.hid (giveL_none ho)
    have HK := Lib.hid hk
    rw [show idxI (sameE RM (lessM e).o (lessM e).c) Q.held = -1 from hk]
    clear ho hk
    obtain ⟨hv, wv, hs, ws, hr1, hr2, h2⟩ := queOpen_M HS2.out
    obtain ⟨ha, hc2, rfl⟩ := (h2.front 1 rfl).own_shape
    have hll : hs.length = Q.held.length := by rw [← hr1.1, List.length_map]
    have HL := Lib.hid (loadM (blk_range (h2.drew.blk 3 rfl)))
    obtain ⟨c0, c1, c2, c3, c4, c5, cf⟩ := cells6 (h2.blk 0 rfl)
    have HR1 := Lib.hid hr1
    have HR2 := Lib.hid hr2
    have HS3 := Lib.hid (show Sat B D w1 (qbM q (.slice ha hs.length hc2) wv :: ownS tEnM 3 (.slice ha hs.length hc2) hs.length (hs.flatMap cellsM) :: entsM wv ws :: blk bx (cellsM (lessM e)).toArray tEnM :: l) from h2)
    generalize hN : hs.length = N at *
    have HN := Lib.hid hN
    have hNb : N ≤ 100000 := by omega
    clear h2 hr1 hr2 hN HS2 hll
    go_upto_region 5 with fail
    refine wp_region_canon [(0, false, 10), (1, false, 7), (2, false, 7), (3, false, 7), (4, false, 7), (5, false, 6), (6, true, 0), (7, true, 0), (8, false, 10), (9, false, 10), (10, true, 0)] (by kernel_rfl) (by kernel_rfl) ?_
    iterate 6 (refine wpCan_read rfl rfl (fun K hK => ?_); (first | ((refine still_ld _ _ rfl _ _ rfl _ HL.out ?_); go_simp) | go_simp); refine hK _ ?_; clear hK K)
    refine wpCan_eff rfl ?_
    refine wpList_build_one rfl _ _ rfl tEnM i0 _ (cellsM (lessM e)) rfl Tryz.underlying69 HI.out.1 HI.out.2.1 (HI.out.2.2.1.trans rfl) (by rw [lenM]; decide) (by rw [lenM]; decide) ?_
    refine wpList_nil ?_
    obtain ⟨W4, hW4, hs4⟩ := Sat.hide (HS3.out.drew.alloc (cellsM (lessM e)).toArray tEnM)
    rw [← hW4]
    clear hW4 HS3 HL c0 c1 c2 c3 c4 c5 cf
    generalize w1.drew.heap.size = bz at hs4 ⊢
    obtain ⟨c0, c1, c2, c3, c4, c5, cf⟩ := cells6 (hs4.blk 1 rfl)
    have HRD := Lib.hid (rd_block (size := 3) (n := 1) (hs4.blk 0 rfl) (by simp [lenM]) (by unfold maxLen; omega))
    have HS4 := Lib.hid (show Sat B D W4 (ownS tEnM 3 (.slice ha N hc2) N (hs.flatMap cellsM) :: blk bz (cellsM (lessM e)).toArray tEnM :: qbM q (.slice ha N hc2) wv :: entsM wv ws :: blk bx (cellsM (lessM e)).toArray tEnM :: l) from hs4.front 2 rfl)
    clear hs4
    refine And.intro ?_ ?_
    · go_simp
    refine wpCan_eff rfl ?_
    refine wpList_append_Sat _ rfl _ _ 69 rfl tEnM i0 _ 3 24 Tryz.underlying69 HI.out.1 HI.out.2.1 HI.out.2.2.1 HI.out.2.2.2 rfl _ N _ rfl HS4.out _ 1 _ rfl HRD.out (by simpa using oneM (lessM e)) (by unfold maxLen; omega) (by omega) ?_
    intro v7 w7 hs7 h17
    refine wpList_nil ?_
    clear c0 c1 c2 c3 c4 c5 cf HS4 HRD
    obtain ⟨c0, c1, c2, c3, c4, c5, cf⟩ := cells6 (hs7.blk 2 rfl)
    have HS7 := Lib.hid (Sat.set5 (hs7.front 2 rfl) v7)
    clear hs7
    obtain ⟨va, vc, rfl⟩ : ∃ va vc, v7 = .slice va (N + 1) vc := (HS7.out.front 1 rfl).own_shape
    refine And.intro ?_ ?_
    · go_simp
    iterate 2 (refine wpCan_read rfl rfl (fun K hK => ?_); (first | ((refine still_ld _ _ rfl _ _ rfl _ HL.out ?_); go_simp) | go_simp); refine hK _ ?_; clear hK K)
    refine wpCan_eff rfl ?_
    refine wpList_plain rfl (fun K hK => ?_)
    go_simp
    refine hK _ _ ?_
    clear hK K
    refine wpList_nil ?_
    refine And.intro ?_ ?_
    · go_simp
    refine wpCan_nil ?_
    go_wp2_with fail
    go_end0
    refine ⟨rfl, ?_⟩
    have h7 := (HS7.out.front 2 rfl).drop
    have h8 : Sat B D (w7.setCell ⟨q, 4, none⟩ (.slice va (N + 1) vc)) (qbM q (.slice va (N + 1) vc) wv :: entsM (.slice va (N + 1) vc) (hs ++ [lessM e]) :: entsM wv ws :: blk bx (cellsM (lessM e)).toArray tEnM :: l) := by
      show Sat B D (w7.setCell ⟨q, 4, none⟩ (.slice va (N + 1) vc)) (qbM q _ _ :: ownS tEnM 3 _ (hs ++ [lessM e]).length _ :: _)
      rw [List.length_append, HN.out, List.flatMap_append]
      simpa using h7
    refine (queShut_M (Q := giveQ RM Q (entM e)) ⟨?_, ?_⟩ HR2.out h8).swap.drop
    · show _ = giveL RM Q.held (entM e)
      rw [HG.out, List.map_append, HR1.out.1]
      rfl
    · intro x hx
      rcases List.mem_append.1 hx with hx | hx
      · exact HR1.out.2 x hx
      · obtain rfl := List.mem_singleton.1 hx
        exact trivial
end Go.Proofs.YtkdinhlmghfpeaaGreatDoor
