/- Joined texts: The library's Clone, Insert of slices as the tree calls it, at what stands at a key. The library's Delete of slices as the tree calls it, at what stands at a key. -/
import Derived.Test.YtcbklkcpjldcjaaJ2
import Derived.Deep.Cut
/- The library's Clone, Insert of slices as the tree calls it, at what stands at a key. -/
namespace Go.Proofs.Ytcbklkcpjldcjaa
open Go.ChangeShapes Go.WideShapes Go.ChangeAt Go.RowKit
set_option maxRecDepth 100000
set_option linter.unusedSimpArgs false

theorem infoSlot : (Try.prog.info? 74).map (fun i => (i.zero, i.size, i.bytes)) = some (some (.agg #[.bool false, .int .i64 0, .slice none 0 0]), 3, 40) := by kernel_rfl
theorem zone_Slot : ∀ u ∈ (Value.agg #[.bool false, .int .i64 0, .slice none 0 0]).cells.toList, u.oneCell' = true := by intro u hu; simp [Value.cells] at hu; rcases hu with rfl | rfl | rfl <;> rfl

set_option maxHeartbeats 1000000 in
theorem clone_Slot {B w : World} {D : PH} {l : List HP} {v : Value} {n : Nat} {xs : List Value} (hrd : Rd w 3 v n xs) (hone : ∀ u ∈ xs, u.oneCell' = true) (hb : n * 40 ≤ 140737488355328) (hs : Sat B D w l) :
    Calls Try.prog 74 #[v] w fun e w' => ∃ v', e = .returned v' ∧ Sat B D w' (ownS 74 3 v' n xs :: l) := by
  obtain ⟨i0, hi, hz0, hz1, hz2⟩ := info_parts infoSlot
  have hm := hrd.2.1
  obtain ⟨ao, cap, rfl, _, _, hnone, hcase⟩ := hrd.2.2
  cases ao with
  | none =>
    have h0 : n = 0 := by rcases hcase with h | ⟨g, o, h, _⟩; exact h; cases h
    subst h0
    have hx : xs = [] := List.eq_nil_of_length_eq_zero (by simpa using hrd.1)
    subst hx
    have HS := Lib.hid (hs.own_nil 74 3)
    clear hcase hnone hrd hz0 hz1 hz2 hi hb hs
    go_enter Try.func74, Try.ntmps74
    go_wp2_with fail
    go_ret
    exact ⟨_, rfl, HS.out⟩
  | some a =>
    have hown := Sat.own_fresh (e := 74) (size := 3) (n := 0) (cap := 0) (cs := #[]) (xs := []) hs (by omega) (by omega) (by simp) (by simp) (by simp)
    have hrd2 : Rd (w.alloc (.cells #[] 74)) 3 (.slice (some a) n cap) n xs := hrd.kept ((Kept.refl (fun _ => False) _).alloc _) (fun _ _ h => h)
    have HO := Lib.hid hown
    have HR := Lib.hid hrd2
    have HI := Lib.hid (And.intro hi (And.intro hz0 (And.intro hz1 hz2)))
    clear hcase hnone hrd hz0 hz1 hz2 hi hs hown hrd2
    go_enter Try.func74, Try.ntmps74
    go_wp2_with (at_builtin; refine wpList_append_Sat _ rfl _ _ 108 rfl 74 i0 _ 3 40 Try.underlying108 HI.out.1 HI.out.2.1 HI.out.2.2.1 HI.out.2.2.2 rfl _ 0 [] rfl HO.out _ n xs rfl HR.out hone (by omega) (by omega) ?_; intro v' w' h1 h2; simp only [Nat.zero_add, List.nil_append] at h1; have H1 := Lib.hid h1; clear h1 h2)
    go_ret
    exact ⟨_, rfl, H1.out⟩

set_option maxHeartbeats 2000000 in
theorem insert_end_Slot {B w : World} {D : PH} {l : List HP} {v : Value} {n : Nat} {xs xc : List Value} (hxc : xc.length = 3) (hx1 : ∀ u ∈ xc, u.oneCell' = true) (bx : Nat) (hb : (n + 1) * 40 ≤ 140737488355328) (hs : Sat B D w (ownS 74 3 v n xs :: blk bx xc.toArray 74 :: l)) :
    Calls Try.prog 72 #[v, .int .i64 n, .slice (some ⟨bx, 0, none⟩) 1 1] w fun e w' => ∃ v', e = .returned v' ∧ Sat B D w' (ownS 74 3 v' (n + 1) (xs ++ xc) :: blk bx xc.toArray 74 :: l) := by
  obtain ⟨i0, hi, hz0, hz1, hz2⟩ := info_parts infoSlot
  have hle := (hs.own 0 rfl).le
  obtain ⟨ao, cap, hv, hnc, hcm, _⟩ := (hs.own 0 rfl).rd.2.2
  subst hv
  have hrd := rd_block (size := 3) (n := 1) (hs.blk 1 rfl) (by simpa using hxc) (by unfold maxLen; omega)
  unfold maxLen at hle hcm
  have HS := Lib.hid hs
  have HR := Lib.hid hrd
  have HI := Lib.hid (And.intro hi (And.intro hz0 (And.intro hz1 hz2)))
  clear hi hz0 hz1 hz2 hs hrd
  have hm1 : ¬ ((1 : Int) = 0) := by omega
  go_enter Try.func72, Try.ntmps72
  go_wp2_with (at_builtin; refine wpList_append_Sat _ rfl _ _ 108 rfl 74 i0 _ 3 40 Try.underlying108 HI.out.1 HI.out.2.1 HI.out.2.2.1 HI.out.2.2.2 rfl _ n xs rfl HS.out _ 1 _ rfl HR.out (by simpa using hx1) (by unfold maxLen; omega) (by omega) ?_; intro v' w' h1 h2; have H1 := Lib.hid h1; clear h1 h2)
  all_goals
    go_ret
    exact ⟨_, rfl, by simpa using H1.out⟩

theorem overlaps_Slot {w : World} {bx g : Nat} {xc cur : Array Value} (h1 : w.heap[bx]? = some (.cells xc 74 (0, 0))) (h2 : w.heap[g]? = some (.cells cur 74 (0, 0))) (hne : bx ≠ g) (hc : cur.size ≠ 0) (la ca lb cb off : Nat) :
    (callFunc 85 #[.slice (some ⟨bx, 0, none⟩) la ca, .slice (some ⟨g, off, none⟩) lb cb]).run Try.prog w = .ok (.value (.bool false)) w := by
  rw [run_callFunc_extern Try.func85 (by kernel_rfl) (by kernel_rfl) (by kernel_rfl) (e := Extern.SlicesOverlaps.overlaps #[108, 108] #[4]) (by kernel_rfl),
    Lib.run_overlaps_apart w 108 4 74 Try.underlying108 3 (fun w => Try.sizeOf74 w) ⟨bx, 0, none⟩ ⟨g, off, none⟩ la ca lb cb hne 74 74 xc.size cur.size (by simp [World.shape?, h1]) (by simp [World.shape?, h2]) hc (by simp [World.frozen?, h1]) (by simp [World.frozen?, h1])]
  rfl

set_option maxHeartbeats 2000000 in
theorem insert_room_Slot {B w : World} {D : PH} {l : List HP} {g n cap i : Nat} {xs xc ys : List Value} (hys : ys = xs.take (i * 3) ++ xc ++ xs.drop (i * 3)) (hin : i < n) (hroom : n + 1 ≤ cap) (hxc : xc.length = 3) (hx1 : ∀ u ∈ xc, u.oneCell' = true) (bx : Nat) (hs : Sat B D w (ownS 74 3 (.slice (some ⟨g, 0, none⟩) n cap) n xs :: blk bx xc.toArray 74 :: l)) :
    Calls Try.prog 72 #[.slice (some ⟨g, 0, none⟩) n cap, .int .i64 i, .slice (some ⟨bx, 0, none⟩) 1 1] w fun e w' => ∃ v', e = .returned v' ∧ Sat B D w' (ownS 74 3 v' (n + 1) ys :: blk bx xc.toArray 74 :: l) := by
  obtain ⟨cur, h1, hnc, hcm, hcz, hct, hc1, hxl⟩ := hs.own_row
  have hne := h1.ne 1 0 (by omega) rfl rfl
  have hsz0 : cur.toArray.size = cur.length := by simp
  have hov := overlaps_Slot (h1.blk 1 rfl) (h1.blk 0 rfl) hne (by omega)
  have HS := Lib.hid h1.drew
  have HCT := Lib.hid hct
  have HC1 := Lib.hid hc1
  have HXL := Lib.hid hxl
  have HXC := Lib.hid hxc
  have HYS := Lib.hid hys
  have hcm' := hcm
  unfold maxLen at hcm'
  have hrd1 : Rd w.drew 3 (.slice (some ⟨g, (i * 3), none⟩) (n + 1 - i) (cap - i)) (n + 1 - i) ((cur.drop (i * 3)).take ((n + 1 - i) * 3)) := by
    refine ⟨by rw [List.length_take, List.length_drop]; omega, by omega, _, _, rfl, by omega, by omega, (fun h => by cases h), .inr ⟨g, _, rfl, fun j u hu => ?_⟩⟩
    rw [cell_of_row _ g _ _ _ _ h1.drew.heap_blk]
    rw [List.getElem?_take] at hu
    split at hu
    · rw [List.getElem?_drop] at hu; simpa using hu
    · cases hu
  have HRD := Lib.hid hrd1
  have HCS := Lib.hid (show (((cur.drop (i * 3)).take ((n + 1 - i) * 3)).take ((n - i) * 3)) = xs.drop (i * 3) by
    rw [List.take_take, Nat.min_eq_left (by omega), ← hct, List.drop_take]
    congr 1
    omega)
  have hfree : ∀ u ∈ xs.drop (i * 3), u.oneCell' = true := fun u hu => hc1 u (List.mem_of_mem_drop hu)
  have HONE := Lib.hid hfree
  clear hs h1 hct hc1 hxl hxc hys hrd1 hsz0 hfree
  have hm1 : ¬ ((1 : Int) = 0) := by omega
  have hin' : ¬ ((i : Int) = (n : Int)) := by omega
  have hw1 : IntKind.i64.wrap ((i : Int) + 1) = (i : Int) + 1 := IntWalk.i64_in _ (by omega)
  have hw2 : IntKind.i64.wrap ((n : Int) + 1) = (n : Int) + 1 := IntWalk.i64_in _ (by omega)
  have htn : ((i : Int) + 1).toNat = i + 1 := by omega
  have hb1 : (0 : Int) ≤ (i : Int) + 1 := by omega
  have hb2 : ¬ (cap = i + 1) := by omega
  have hin2 : i ≤ n := by omega
  have hb3 : (i : Int) ≤ (n : Int) + 1 := by omega
  have hb5 : i ≤ n + 1 := by omega
  have hb4 : ¬ (cap = i) := by omega
  go_enter Try.func72, Try.ntmps72
  go_wp2_with (simp only [hov])
  refine wp_region_canon [(0, false, 8), (1, false, 8), (2, false, 8), (3, false, 8), (4, false, 8), (5, false, 8), (6, false, 8), (7, false, 8), (8, true, 0)] (by kernel_rfl) (by kernel_rfl) ?_
  iterate 8 (refine wpCan_read rfl rfl (fun K hK => ?_); go_simp; refine hK _ ?_; clear hK K)
  refine wpCan_eff rfl ?_
  refine wpList_copy_Sat _ rfl _ _ 108 108 rfl 74 3 Try.underlying108 (fun w => Try.sizeOf74 w) g _ _ _ rfl cur HS.out _ _ (n - i) _ (xs.drop (i * 3)) rfl HRD.out (by omega) HCS.out (by omega) HONE.out ?_
  intro w2 h2
  have HS2 := Lib.hid h2
  clear h2 HS HRD HONE hov
  refine wpList_nil ?_
  refine And.intro ?_ ?_
  · go_simp
  refine wpCan_nil ?_
  have hrd := rd_block (size := 3) (n := 1) (HS2.out.blk 1 rfl) (by simpa using HXC.out) (by unfold maxLen; omega)
  have hlen2 := lay_len cur ((i + 1) * 3) (xs.drop (i * 3)) (by rw [List.length_drop, HXL.out]; omega)
  have HRX := Lib.hid hrd
  have HL2 := Lib.hid hlen2
  clear hrd hlen2
  go_wp2_with (show wpList _ _ _ (⟨some 82, _, _, _, _, _⟩ :: _) _ _; refine wpList_copy_Sat _ rfl _ _ 108 108 rfl 74 3 Try.underlying108 (fun w => Try.sizeOf74 w) g _ _ _ rfl _ HS2.out _ _ 1 _ xc rfl HRX.out (by omega) (by rw [List.take_of_length_le (by simp [HXC.out])]) (by rw [HL2.out]; omega) (by simpa using hx1) ?_; intro w3 h3; have HS3 := Lib.hid h3; clear h3)
  go_ret
  refine ⟨_, rfl, HS3.out.row_own (by omega) hcm (by rw [lay_len _ _ _ (by rw [HL2.out, HXC.out]; omega), HL2.out]; exact hcz) ?_ ?_⟩
  · have e := lay_insert cur xs xc (i * 3) 3 (n * 3) HCT.out (by omega) HXC.out (by omega)
    have o1 : ((i + 1) * 3) = i * 3 + 3 := by omega
    have o2 : (i * 3) = i * 3 := by omega
    have o3 : (n + 1) * 3 = n * 3 + 3 := by omega
    rw [HYS.out, o3, o1]
    first | exact e | (simp only [Nat.mul_one] at e ⊢; exact e)
  · intro u hu
    rw [HYS.out] at hu
    rcases List.mem_append.1 hu with hu | hu
    · rcases List.mem_append.1 hu with hu | hu
      · exact HC1.out u (List.mem_of_mem_take hu)
      · exact hx1 u hu
    · exact HC1.out u (List.mem_of_mem_drop hu)

set_option maxHeartbeats 2000000 in
theorem insert_grow_Slot {B w : World} {D : PH} {l : List HP} {g n cap i : Nat} {xs xc ys : List Value} (hys : ys = xs.take (i * 3) ++ xc ++ xs.drop (i * 3)) (hin : i < n) (hroom : cap < n + 1) (hxc : xc.length = 3) (hx1 : ∀ u ∈ xc, u.oneCell' = true) (bx : Nat) (hb : (n + 1) * 40 ≤ 140737488355328)
    (hs : Sat B D w (ownS 74 3 (.slice (some ⟨g, 0, none⟩) n cap) n xs :: blk bx xc.toArray 74 :: l)) :
    Calls Try.prog 72 #[.slice (some ⟨g, 0, none⟩) n cap, .int .i64 i, .slice (some ⟨bx, 0, none⟩) 1 1] w fun e w' => ∃ v', e = .returned v' ∧ Sat B D w' (ownS 74 3 v' (n + 1) ys :: blk bx xc.toArray 74 :: l) := by
  obtain ⟨i0, hi, hz0, hz1, hz2⟩ := info_parts infoSlot
  have ho := hs.own 0 rfl
  have hle := ho.le
  obtain ⟨_, _, hv, hnc, hcm, _⟩ := ho.rd.2.2
  cases hv
  have hxl := ho.1
  have hc1 := ho.2.1
  unfold maxLen at hle hcm
  have holds : ∀ j v, (xs.take (i * 3))[j]? = some v → w.cell? ((⟨g, 0, none⟩ : Addr).add j) = some v := fun j v hj => by
    rw [add_none, Nat.zero_add]
    rw [List.getElem?_take] at hj
    split at hj
    · exact ho.cells j v hj
    · cases hj
  have HS := Lib.hid hs
  have HI := Lib.hid (And.intro hi (And.intro hz0 (And.intro hz1 hz2)))
  have HOLDS := Lib.hid holds
  have HXL := Lib.hid hxl
  have HC1 := Lib.hid hc1
  have HXC := Lib.hid hxc
  have HYS := Lib.hid hys
  clear hs hi hz0 hz1 hz2 holds hxl hc1 hxc hys ho
  have hm1 : ¬ ((1 : Int) = 0) := by omega
  have hin' : ¬ ((i : Int) = (n : Int)) := by omega
  have hcc : (cap : Int) < (n : Int) + 1 := by omega
  have hw1 : IntKind.i64.wrap ((i : Int) + 1) = (i : Int) + 1 := IntWalk.i64_in _ (by omega)
  have hw2 : IntKind.i64.wrap ((n : Int) + 1) = (n : Int) + 1 := IntWalk.i64_in _ (by omega)
  have hw3 : IntKind.i64.wrap ((n : Int) + 1 - (i : Int)) = (n : Int) + 1 - (i : Int) := IntWalk.i64_in _ (by omega)
  have htn : ((i : Int) + 1).toNat = i + 1 := by omega
  have hb1 : (0 : Int) ≤ (i : Int) + 1 := by omega
  have hb4 : ¬ (cap = i) := by omega
  have hin2 : i ≤ n := by omega
  have hb3 : (i : Int) ≤ (n : Int) + 1 := by omega
  have hb5 : i ≤ n + 1 := by omega
  go_enter Try.func72, Try.ntmps72
  go_upto_region 10 with (show wpList _ _ _ (⟨some 40, _, _, _, _, _⟩ :: _) _ _; refine wpList_append_zeros_Sat _ rfl _ _ 108 3 rfl 74 i0 _ 3 40 Try.underlying108 Try.underlying3 HI.out.1 HI.out.2.1 HI.out.2.2.1 HI.out.2.2.2 rfl zone_Slot ⟨g, 0, none⟩ i cap rfl _ (by rw [List.length_take, HXL.out]; omega) HOLDS.out (fun u hu => HC1.out u (List.mem_of_mem_take hu)) (n + 1 - i) (by simp [Act.eval]; omega) (by omega) (by omega) (by unfold maxLen; omega) (by omega) HS.out ?_; intro w2 g2 cap2 zs hzs hcap2 h2; rw [show i + (n + 1 - i) = n + 1 by omega] at h2 hcap2; have H2 := Lib.hid h2; have HZS := Lib.hid hzs; clear h2 hzs)
  obtain ⟨cur, h1, _, hcm2, hcz, hct, hc2, hcl⟩ := H2.out.own_row
  have hrx := rd_block (size := 3) (n := 1) (h1.blk 2 rfl) (by simpa using HXC.out) (by unfold maxLen; omega)
  have hg1 : ¬ (cap2 = i) := by omega
  have hg2 : ¬ (cap2 = i + 1) := by omega
  have H1 := Lib.hid h1
  have HRX := Lib.hid hrx
  have HCT := Lib.hid hct
  have HCM := Lib.hid hcm2
  clear h1 hrx hct hc2 hcl H2 HOLDS HI HS
  unfold maxLen at hcm2
  go_upto_region 11 with (show wpList _ _ _ (⟨some 45, _, _, _, _, _⟩ :: _) _ _; refine wpList_copy_Sat _ rfl _ _ 108 108 rfl 74 3 Try.underlying108 (fun w => Try.sizeOf74 w) g2 _ _ _ rfl _ H1.out _ _ 1 _ xc rfl HRX.out (by omega) (by rw [List.take_of_length_le (by simp [HXC.out])]) (by omega) (by simpa using hx1) ?_; intro w3 h3; have HS3 := Lib.hid h3; clear h3)
  have hlen2 := lay_len cur (i * 3) xc (by rw [HXC.out]; omega)
  have hrd1 : Rd w3.drew 3 (.slice (some ⟨g, (i * 3), none⟩) (n - i) (cap - i)) (n - i) (xs.drop (i * 3)) := by
    refine ⟨by rw [List.length_drop, HXL.out]; omega, by unfold maxLen; omega, _, _, rfl, by omega, by unfold maxLen; omega, (fun h => by cases h), .inr ⟨g, _, rfl, fun j u hu => ?_⟩⟩
    rw [List.getElem?_drop] at hu
    have := (HS3.out.own 1 rfl).cells _ u hu
    simpa using this
  have HS4 := Lib.hid HS3.out.drew
  have HRD := Lib.hid hrd1
  have HL2 := Lib.hid hlen2
  have HCS := Lib.hid (show (xs.drop (i * 3)).take ((n - i) * 3) = xs.drop (i * 3) by rw [List.take_of_length_le (by rw [List.length_drop, HXL.out]; omega)])
  have HFREE := Lib.hid (show ∀ u ∈ xs.drop (i * 3), u.oneCell' = true from fun u hu => HC1.out u (List.mem_of_mem_drop hu))
  clear hrd1 hlen2 H1 HRX HS3
  refine wp_region_canon [(0, false, 8), (1, false, 8), (2, false, 8), (3, false, 8), (4, false, 8), (5, false, 8), (6, false, 8), (7, false, 8), (8, true, 0)] (by kernel_rfl) (by kernel_rfl) ?_
  iterate 8 (refine wpCan_read rfl rfl (fun K hK => ?_); go_simp; refine hK _ ?_; clear hK K)
  refine wpCan_eff rfl ?_
  refine wpList_copy_Sat _ rfl _ _ 108 108 rfl 74 3 Try.underlying108 (fun w => Try.sizeOf74 w) g2 _ _ _ rfl _ HS4.out _ _ (n - i) _ (xs.drop (i * 3)) rfl HRD.out (by omega) HCS.out (by rw [HL2.out]; omega) HFREE.out ?_
  intro w5 h5
  have HS5 := Lib.hid (h5.swap.drop)
  have H5 := Lib.hid h5
  clear h5 HS4 HRD HFREE HS5
  refine wpList_nil ?_
  refine And.intro ?_ ?_
  · go_simp
  refine wpCan_nil ?_
  go_wp2_with fail
  go_ret
  have hrow := H5.out.row_own (n := n + 1) (cap := cap2) (size := 3) (xs := ys) (by omega) HCM.out (by rw [lay_len _ _ _ (by rw [HL2.out, List.length_drop, HXL.out]; omega), HL2.out]; exact hcz) ?_ ?_
  · exact ⟨_, rfl, hrow.swap.drop⟩
  · have o1 : ((i + 1) * 3) = i * 3 + 3 := by omega
    have o3 : (n + 1) * 3 = n * 3 + 3 := by omega
    have hct' := HCT.out
    rw [o3] at hct'
    have e := lay_insert2 cur xs xc zs (i * 3) 3 (n * 3) hct' HXL.out (by omega) HXC.out
    rw [HYS.out, o3, o1]
    first | exact e | (simp only [Nat.mul_one] at e ⊢; exact e)
  · intro u hu
    rw [HYS.out] at hu
    rcases List.mem_append.1 hu with hu | hu
    · rcases List.mem_append.1 hu with hu | hu
      · exact HC1.out u (List.mem_of_mem_take hu)
      · exact hx1 u hu
    · exact HC1.out u (List.mem_of_mem_drop hu)

theorem insert_Slot {B w : World} {D : PH} {l : List HP} {v : Value} {n i : Nat} {xs xc : List Value} (hin : i ≤ n) (hxc : xc.length = 3) (hx1 : ∀ u ∈ xc, u.oneCell' = true) (bx : Nat) (hb : (n + 1) * 40 ≤ 140737488355328)
    (hs : Sat B D w (ownS 74 3 v n xs :: blk bx xc.toArray 74 :: l)) :
    Calls Try.prog 72 #[v, .int .i64 i, .slice (some ⟨bx, 0, none⟩) 1 1] w fun e w' => ∃ v', e = .returned v' ∧ Sat B D w' (ownS 74 3 v' (n + 1) (xs.take (i * 3) ++ xc ++ xs.drop (i * 3)) :: blk bx xc.toArray 74 :: l) := by
  have hxl := (hs.own 0 rfl).1
  by_cases h : i = n
  · subst h
    have := insert_end_Slot hxc hx1 bx hb hs
    rw [List.take_of_length_le (by omega), List.drop_of_length_le (by omega), List.append_nil]
    exact this
  · obtain ⟨g, cap, rfl, hnc, hcm⟩ := (hs.own 0 rfl).form (by omega)
    by_cases hroom : n + 1 ≤ cap
    · exact insert_room_Slot rfl (by omega) hroom hxc hx1 bx hs
    · exact insert_grow_Slot rfl (by omega) (by omega) hxc hx1 bx hb hs
end Go.Proofs.Ytcbklkcpjldcjaa

/- The library's Delete of slices as the tree calls it, at what stands at a key. -/
namespace Go.Proofs.Ytcbklkcpjldcjaa
open Go.ChangeShapes Go.WideShapes Go.ChangeAt Go.RowKit
set_option maxRecDepth 100000
set_option linter.unusedSimpArgs false

theorem zone1_Slot : ∀ u ∈ (Builtin.zeroCells (Value.agg #[.bool false, .int .i64 0, .slice none 0 0]).cells 1).toList, u.oneCell' = true := zeroCells_mem zone_Slot 1

theorem zeros_Slot (w : World) : (zeroValue 74).run Try.prog w = .ok (.agg #[.bool false, .int .i64 0, .slice none 0 0]) w := Try.zeroValue74 w
set_option maxHeartbeats 2000000 in
theorem delete_Slot {B w : World} {D : PH} {l : List HP} {v : Value} {n i : Nat} {xs ys : List Value} (hys : ys = xs.take (i * 3) ++ xs.drop ((i + 1) * 3)) (hin : i ≤ n) (hs : Sat B D w (ownS 74 3 v (n + 1) xs :: l)) :
    Calls Try.prog 68 #[v, .int .i64 i, .int .i64 (i + 1)] w fun e w' => ∃ v', e = .returned v' ∧ Sat B D w' (ownS 74 3 v' n ys :: l) := by
  obtain ⟨i0, hi, hz0, hz1, hz2⟩ := info_parts infoSlot
  obtain ⟨g, cap, rfl, hnc, hcm⟩ := (hs.own 0 rfl).form (by omega)
  have ho := hs.own 0 rfl
  have hxl := ho.1
  have hc1 := ho.2.1
  have hcm' := hcm
  unfold maxLen at hcm
  have hcut := (hs.own_cut (m := i) (c := cap) (by omega) (by omega) (by omega)).drew
  have hrd1 : ∀ o, (i + 1 < cap → o = ((i + 1) * 3)) → Rd w.drew 3 (.slice (some ⟨g, o, none⟩) (n - i) (cap - (i + 1))) (n - i) (xs.drop ((i + 1) * 3)) := fun o ho' => by
    refine ⟨by rw [List.length_drop, hxl, ← Nat.sub_mul]; congr 1; omega, by unfold maxLen; omega, _, _, rfl, by omega, by unfold maxLen; omega, (fun h => by cases h), ?_⟩
    by_cases hc : n - i = 0
    · exact .inl hc
    · refine .inr ⟨g, _, rfl, fun j u hu => ?_⟩
      rw [ho' (by omega)]
      rw [List.getElem?_drop] at hu
      have := ho.cells _ u hu
      simpa using this
  have HC := Lib.hid hcut
  have HRD := Lib.hid hrd1
  have HI := Lib.hid (And.intro hi (And.intro hz0 (And.intro hz1 hz2)))
  have HXL := Lib.hid hxl
  have HC1 := Lib.hid hc1
  have HYS := Lib.hid hys
  have HFREE := Lib.hid (show ∀ u ∈ xs.drop ((i + 1) * 3), u.oneCell' = true from fun u hu => hc1 u (List.mem_of_mem_drop hu))
  clear hs ho hxl hc1 hcut hrd1 hi hz0 hz1 hz2 hys
  have hij : ¬ ((i : Int) = (i : Int) + 1) := by omega
  have htn : ((i : Int) + 1).toNat = i + 1 := by omega
  have hb0 : (0 : Int) ≤ (i : Int) + 1 := by omega
  have hb1 : (i : Int) ≤ (i : Int) + 1 := by omega
  have hb2 : (i : Int) + 1 ≤ (n : Int) + 1 := by omega
  have hb3 : (n : Int) + 1 ≤ (cap : Int) := by omega
  have hb4 : (i : Int) ≤ (cap : Int) := by omega
  have hb5 : i ≤ cap := by omega
  have hb7 : ¬ (cap = n) := by omega
  go_enter Try.func68, Try.ntmps68
  go_upto_region 5 with (fail)
  by_cases hci : cap = i + 1
  · have hrd := HRD.out 0 (by omega)
    have HR := Lib.hid hrd
    clear hrd HRD
    subst hci
    obtain rfl : n = i := by omega
    refine wp_region_canon [(0, false, 6), (1, false, 6), (2, false, 6), (3, false, 6), (4, false, 6), (5, false, 6), (6, true, 0), (7, false, 999)] (by kernel_rfl) (by kernel_rfl) ?_
    iterate 6 (refine wpCan_read rfl rfl (fun K hK => ?_); go_simp; refine hK _ ?_; clear hK K)
    refine wpCan_eff rfl ?_
    refine wpList_append_room_Sat _ rfl _ _ 108 rfl 74 i0 3 Try.underlying108 HI.out.1 HI.out.2.2.1 g n _ _ rfl HC.out (.slice (some ⟨g, 0, none⟩) 0 0) 0 _ rfl (by simpa using HR.out) HFREE.out (by omega) ?_
    intro w3 h3
    rw [Nat.add_zero] at h3 ⊢
    obtain ⟨cur, h4, _, _, hcz, hct, _, hcl⟩ := h3.own_row
    have H4 := Lib.hid h4
    have HCT := Lib.hid hct
    clear h3 h4 hct hcl HC HR
    refine wpList_nil ?_
    refine And.intro ?_ ?_
    · go_simp
    iterate 1 (refine wpCan_read rfl rfl (fun K hK => ?_); go_simp; refine hK _ ?_; clear hK K)
    refine wpCan_nil ?_
    go_wp2_with (show wpList _ _ _ (⟨none, .call _, _, _, _, _⟩ :: _) _ _; refine wpList_clear_Sat _ rfl _ 108 rfl 74 _ Try.underlying108 (fun w => zeros_Slot w) g _ 1 _ rfl cur H4.out (by omega) (by simp [size_zeroCells, Value.cells]; omega) zone1_Slot ?_; intro w5 h5; have H5 := Lib.hid h5; clear h5)
    go_ret
    refine ⟨_, rfl, H5.out.row_own (by omega) hcm' (by rw [lay_len _ _ _ (by simp [size_zeroCells, Value.cells]; omega)]; exact hcz) ?_ ?_⟩
    · unfold lay
      rw [List.append_assoc, List.take_append_of_le_length (by rw [List.length_take]; omega), HYS.out, ← HCT.out, List.take_take]
      congr 1
      omega
    · intro u hu
      rw [HYS.out] at hu
      exact (List.mem_append.1 hu).elim (fun h => HC1.out u (List.mem_of_mem_take h)) (fun h => HC1.out u (List.mem_of_mem_drop h))
  · have hrd := HRD.out ((i + 1) * 3) (fun _ => rfl)
    have HR := Lib.hid hrd
    clear hrd HRD
    refine wp_region_canon [(0, false, 6), (1, false, 6), (2, false, 6), (3, false, 6), (4, false, 6), (5, false, 6), (6, true, 0), (7, false, 999)] (by kernel_rfl) (by kernel_rfl) ?_
    iterate 6 (refine wpCan_read rfl rfl (fun K hK => ?_); go_simp; refine hK _ ?_; clear hK K)
    refine wpCan_eff rfl ?_
    refine wpList_append_room_Sat _ rfl _ _ 108 rfl 74 i0 3 Try.underlying108 HI.out.1 HI.out.2.2.1 g i _ _ rfl HC.out (.slice (some ⟨g, ((i + 1) * 3), none⟩) (n - i) (cap - (i + 1))) (n - i) _ rfl HR.out HFREE.out (by omega) ?_
    intro w3 h3
    rw [show i + (n - i) = n by omega] at h3 ⊢
    obtain ⟨cur, h4, _, _, hcz, hct, _, hcl⟩ := h3.own_row
    have H4 := Lib.hid h4
    have HCT := Lib.hid hct
    clear h3 h4 hct hcl HC HR
    refine wpList_nil ?_
    refine And.intro ?_ ?_
    · go_simp
    iterate 1 (refine wpCan_read rfl rfl (fun K hK => ?_); go_simp; refine hK _ ?_; clear hK K)
    refine wpCan_nil ?_
    go_wp2_with (show wpList _ _ _ (⟨none, .call _, _, _, _, _⟩ :: _) _ _; refine wpList_clear_Sat _ rfl _ 108 rfl 74 _ Try.underlying108 (fun w => zeros_Slot w) g _ 1 _ rfl cur H4.out (by omega) (by simp [size_zeroCells, Value.cells]; omega) zone1_Slot ?_; intro w5 h5; have H5 := Lib.hid h5; clear h5)
    go_ret
    refine ⟨_, rfl, H5.out.row_own (by omega) hcm' (by rw [lay_len _ _ _ (by simp [size_zeroCells, Value.cells]; omega)]; exact hcz) ?_ ?_⟩
    · unfold lay
      rw [List.append_assoc, List.take_append_of_le_length (by rw [List.length_take]; omega), HYS.out, ← HCT.out, List.take_take]
      congr 1
      omega
    · intro u hu
      rw [HYS.out] at hu
      exact (List.mem_append.1 hu).elim (fun h => HC1.out u (List.mem_of_mem_take h)) (fun h => HC1.out u (List.mem_of_mem_drop h))
end Go.Proofs.Ytcbklkcpjldcjaa
