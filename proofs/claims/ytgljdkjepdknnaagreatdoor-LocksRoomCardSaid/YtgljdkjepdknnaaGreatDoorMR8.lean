/- Joined texts: What somebody holds of the same. (printed by genq.py) Insert, Delete over a queue's entries. (printed by genq.py) Are two rows the same (row.Same, ratlineref02.Same). IndexFunc, ContainsFunc over predicates. (printed by genq.py) -/
import Derived.Test.YtgljdkjepdknnaaGreatDoorMR6
import Derived.Test.YtgljdkjepdknnaaGreatDoorMR5
import Derived.Test.YtgljdkjepdknnaaGreatDoorMR7
/- What somebody holds of the same. (printed by genq.py) -/
namespace Go.Proofs.YtgljdkjepdknnaaGreatDoor
open Go.ChangeShapes Go.WideShapes Go.ChangeAt Go.RowKit
set_option maxRecDepth 100000
set_option linter.unusedSimpArgs false


set_option maxHeartbeats 2000000 in
theorem ownF_C {w : World} {b1 b2 b3 q : Nat} {o : Int} {c : ClmE} {hv wv : Value} (h1 : w.heap[b1]? = some (.cells #[.int .i64 o] 3 (0, 0))) (h2 : w.heap[b2]? = some (.cells #[.pointer (some ⟨q, 0, none⟩)] 74 (0, 0))) (h3 : w.heap[b3]? = some (.cells (ccC c) 37 (0, 0)))
  (hq : w.heap[q]? = some (.cells #[.func (.func 74) #[] #[], .func (.func 75) #[] #[], .func (.func 76) #[] #[], .func (.func 77) #[] #[], hv, wv] tQC (0, 0))) (x : EntE)
  (hx : RdCl w x.x) (hc : RdCl w c)
  : PredF 167 #[.pointer (some ⟨b1, 0, none⟩), .pointer (some ⟨b2, 0, none⟩), .pointer (some ⟨b3, 0, none⟩)] w (cellsC x) (sameE RC o (cdC c) (entC x)) := by
 refine ⟨enters_of Tryz.func167 (by kernel_rfl) rfl, fun W hW => ?_⟩
 obtain ⟨W1, hW1, hk1, hbx, hb1⟩ := two_blocks (kept_blk hW h1) (cellsC x).toArray tEnC
 have hk2 := hW.trans hk1 (fun _ h => h.elim)
 have HW1 := Lib.hid hW1
 have HK1 := Lib.hid hk1
 have HBX := Lib.hid hbx
 obtain ⟨c0, _⟩ := cells1 hb1
 obtain ⟨d0, _⟩ := cells1 (blk_kept hk2 h2)
 have HL3 := Lib.hid (loadCl (w := W1.drew) (blk_range (w := W1.drew) (blk_kept hk2.drew h3)))
 have HX := Lib.hid (hx.kept hk2)
 have HC := Lib.hid (hc.kept hk2)
 obtain ⟨q0, q1, q2, q3, q4, q5, _⟩ := cells6 (blk_kept hk2 hq)
 clear h1 h2 h3 hq hW hW1 hk1 hk2 hbx hb1
 show Calls Tryz.prog 167 #[.agg (cellsC x).toArray, .pointer (some ⟨b1, 0, none⟩), .pointer (some ⟨b2, 0, none⟩), .pointer (some ⟨b3, 0, none⟩)] W _
 by_cases ho : x.o = o
 ·have HO := Lib.hid (show sameE RC o (cdC c) (entC x) = RC.same (entC x).c (cdC c) by unfold sameE; simp [ho])
  rw [HO.out]
  go_enter Tryz.func167, Tryz.ntmps167
  go_upto_region 1 with fail
  rw [← HW1.out]
  clear HW1 HO
  generalize W.heap.size = bx at HBX ⊢
  obtain ⟨x0, _⟩ := boxC HBX.out
  have HL1 := Lib.hid (loadCl (w := W1.drew) (boxCl (w := W1.drew) HBX.out))
  rw [ho] at x0
  clear ho
  refine wp_region_canon [(0, false, 13), (1, false, 13), (2, false, 13), (3, false, 13), (4, false, 13), (5, false, 13), (6, false, 13), (7, false, 13), (8, false, 13), (9, false, 13), (10, false, 13), (11, false, 13), (12, false, 13), (13, true, 0), (14, false, 999), (15, false, 999)] (by kernel_rfl) (by kernel_rfl) ?_
  iterate 5 (refine wpCan_read rfl rfl (fun K hK => ?_); (first | ((refine still_ld _ _ rfl _ _ rfl _ HL1.out ?_); go_simp) | ((refine still_ld _ _ rfl _ _ rfl _ HL3.out ?_); go_simp) | go_simp); refine hK _ ?_; clear hK K)
  iterate 8 (first | (refine wpCan_no rfl rfl ?_; simp only [Act.put, List.setIfInBounds_toArray, List.set_cons_succ, List.set_cons_zero, List.getElem_toArray, List.getElem_cons_succ, List.getElem_cons_zero]) | (refine wpCan_yes rfl rfl (fun K hK => ?_); (first | ((refine still_ld _ _ rfl _ _ rfl _ HL1.out ?_); go_simp) | ((refine still_ld _ _ rfl _ _ rfl _ HL3.out ?_); go_simp) | go_simp); refine hK _ ?_; clear hK K))
  refine wpCan_eff rfl ?_
  refine wpList_do rfl (fun K hK => ?_)
  go_simp
  refine (same_C HX.out.drew HC.out.drew).mono ?_
  rintro e2 w2 ⟨rfl, hk⟩
  have HK2 := Lib.hid (HK1.out.drew.trans hk (fun _ h => h.elim))
  clear hk
  refine hK _ _ ?_
  clear hK K
  refine wpList_nil ?_
  refine And.intro ?_ ?_
  ·go_simp
  iterate 2 (refine wpCan_read rfl rfl (fun K hK => ?_); (first | ((refine still_ld _ _ rfl _ _ rfl _ HL1.out ?_); go_simp) | ((refine still_ld _ _ rfl _ _ rfl _ HL3.out ?_); go_simp) | go_simp); refine hK _ ?_; clear hK K)
  refine wpCan_nil ?_
  go_wp2_with fail
  go_ret
  exact ⟨rfl, HK2.out⟩
 ·have HO := Lib.hid (show sameE RC o (cdC c) (entC x) = false by unfold sameE; simp [ho])
  have hne : (x.o == o) = false := by simpa using ho
  go_enter Tryz.func167, Tryz.ntmps167
  go_upto_region 1 with fail
  rw [← HW1.out]
  clear HW1
  generalize W.heap.size = bx at HBX ⊢
  have x0 := (boxC HBX.out).1
  clear ho
  refine wp_region_canon [(0, false, 13), (1, false, 13), (2, false, 13), (3, false, 13), (4, false, 13), (5, false, 13), (6, false, 13), (7, false, 13), (8, false, 13), (9, false, 13), (10, false, 13), (11, false, 13), (12, false, 13), (13, true, 0), (14, false, 999), (15, false, 999)] (by kernel_rfl) (by kernel_rfl) ?_
  iterate 5 (refine wpCan_read rfl rfl (fun K hK => ?_); go_simp; refine hK _ ?_; clear hK K)
  iterate 8 (first | (refine wpCan_no rfl rfl ?_; simp only [Act.put, List.setIfInBounds_toArray, List.set_cons_succ, List.set_cons_zero, List.getElem_toArray, List.getElem_cons_succ, List.getElem_cons_zero]) | (refine wpCan_yes rfl rfl (fun K hK => ?_); go_simp; refine hK _ ?_; clear hK K))
  refine wpCan_eff rfl ?_
  refine wpList_not rfl ?_
  simp only [Act.put, List.setIfInBounds_toArray, List.set_cons_succ, List.set_cons_zero]
  refine wpList_nil ?_
  refine And.intro ?_ ?_
  ·go_simp
  iterate 2 (refine wpCan_read rfl rfl (fun K hK => ?_); go_simp; refine hK _ ?_; clear hK K)
  refine wpCan_nil ?_
  go_wp2_with fail
  go_ret
  exact ⟨by rw [HO.out]; rfl, HK1.out.drew⟩
set_option maxHeartbeats 2000000 in
theorem own_C {B w : World} {D D' : PH} {l : List HP} {q : Nat} {Q : Qm Clm} (o : Int) (c : ClmE)
  (hD : PH.le D' D) (hc : ClOk D c)
  (h : Sat B D w (queC D' q Q :: l)) :
  Calls Tryz.prog 133 #[.pointer (some ⟨q, 0, none⟩), .int .i64 o, cvC c] w fun e w' => e = .returned (.int .i64 (idxI (sameE RC o (cdC c)) Q.held)) ∧ Kept (fun _ => False) w w' := by
 obtain ⟨hv, wv, hs, ws, hr1, hr2, h1⟩ := queOpen_C h
 obtain ⟨W1, hW1, hk1, hb1, hb2, hb3⟩ := alloc3 w #[.pointer (some ⟨q, 0, none⟩)] #[.int .i64 o] (ccC c) 74 3 37
 have hq1 := blk_kept hk1 (h1.blk 0 rfl)
 have HI := Lib.hid (indexFunc_C (fun x => sameE RC o (cdC c) (entC x)) ((h1.own 1 rfl).rd.kept hk1 (fun _ _ h => h)) (fun x hx => ownF_C hb2 hb1 hb3 hq1 x
  (((hr1.2 x hx).mono hD).rd (h1.kept hk1)) (hc.rd (h1.kept hk1))
  ))
 rw [idx_map_C (sameE RC o (cdC c)), hr1.1] at HI
 have HW1 := Lib.hid hW1
 have HK1 := Lib.hid hk1
 have HQ1 := Lib.hid hq1
 obtain ⟨e0, _⟩ := cells1 hb1
 clear h h1 hr1 hr2 hW1 hk1 hb1 hb2 hb3 hq1
 generalize idxI (sameE RC o (cdC c)) Q.held = k at *
 go_enter Tryz.func133, Tryz.ntmps133
 go_upto_region 1 with fail
 rw [← HW1.out]
 clear HW1
 generalize w.heap.size + 1 + 1 = bx3 at HI ⊢
 generalize w.heap.size + 1 = bx2 at HI ⊢
 generalize w.heap.size = bx1 at HI e0 ⊢
 obtain ⟨c0, c1, c2, c3, c4, c5, cf⟩ := cells6 HQ1.out
 go_wp2_with (go_at_call 128; refine HI.out.mono ?_; rintro e1 w1 ⟨rfl, hk2⟩; have HK2 := Lib.hid (HK1.out.trans hk2 (fun _ h => h.elim)); clear hk2 HI c0 c1 c2 c3 c4 c5 cf e0)
 go_ret
 exact ⟨rfl, HK2.out⟩
end Go.Proofs.YtgljdkjepdknnaaGreatDoor

/- Insert, Delete over a queue's entries. (printed by genq.py) -/
namespace Go.Proofs.YtgljdkjepdknnaaGreatDoor
open Go.ChangeShapes Go.WideShapes Go.ChangeAt Go.RowKit
set_option maxRecDepth 100000
set_option linter.unusedSimpArgs false


theorem infoC : (Tryz.prog.info? tEnC).map (fun i => (i.zero, i.size, i.bytes)) = some (some (.agg #[.int .i64 0, .int .i64 0, .int .i64 0, .int .i64 0, .bool false, .int .i64 0, .string ⟨#[]⟩, .slice none 0 0, .int .i64 0, .int .i64 0, .bool false, .int .i64 0, .string ⟨#[]⟩, .bool false, .int .i64 0, .string ⟨#[]⟩, .slice none 0 0, .bool false]), 18, 200) := by kernel_rfl
theorem zone1_C : ∀ u ∈ (Builtin.zeroCells (Value.agg #[.int .i64 0, .int .i64 0, .int .i64 0, .int .i64 0, .bool false, .int .i64 0, .string ⟨#[]⟩, .slice none 0 0, .int .i64 0, .int .i64 0, .bool false, .int .i64 0, .string ⟨#[]⟩, .bool false, .int .i64 0, .string ⟨#[]⟩, .slice none 0 0, .bool false]).cells 1).toList, u.oneCell' = true := zeroCells_mem zone_C 1

set_option maxHeartbeats 2000000 in
theorem insert_end_C {B w : World} {D : PH} {l : List HP} {v : Value} {n : Nat} {xs xc : List Value} (hxc : xc.length = 18) (hx1 : ∀ u ∈ xc, u.oneCell' = true) (bx : Nat) (hb : (n + 1) * 200 ≤ 140737488355328) (hs : Sat B D w (ownS 118 18 v n xs :: blk bx xc.toArray 118 :: l)) :
  Calls Tryz.prog 137 #[v, .int .i64 n, .slice (some ⟨bx, 0, none⟩) 1 1] w fun e w' => ∃ v', e = .returned v' ∧ Sat B D w' (ownS 118 18 v' (n + 1) (xs ++ xc) :: blk bx xc.toArray 118 :: l) := by
 obtain ⟨i0, hi, hz0, hz1, hz2⟩ := info_parts infoC
 have hle := (hs.own 0 rfl).le
 obtain ⟨ao, cap, hv, hnc, hcm, _⟩ := (hs.own 0 rfl).rd.2.2
 subst hv
 have hrd := rd_block (size := 18) (n := 1) (hs.blk 1 rfl) (by simpa using hxc) (by unfold maxLen; omega)
 unfold maxLen at hle hcm
 have HS := Lib.hid hs
 have HR := Lib.hid hrd
 have HI := Lib.hid (And.intro hi (And.intro hz0 (And.intro hz1 hz2)))
 clear hi hz0 hz1 hz2 hs hrd
 have hm1 : ¬ ((1 : Int) = 0) := by omega
 go_enter Tryz.func137, Tryz.ntmps137
 go_wp2_with (at_builtin; refine wpList_append_Sat _ rfl _ _ 108 rfl 118 i0 _ 18 200 Tryz.underlying108 HI.out.1 HI.out.2.1 HI.out.2.2.1 HI.out.2.2.2 rfl _ n xs rfl HS.out _ 1 _ rfl HR.out (by simpa using hx1) (by unfold maxLen; omega) (by omega) ?_; intro v' w' h1 h2; have H1 := Lib.hid h1; clear h1 h2)
 all_goals
  go_ret
  exact ⟨_, rfl, by simpa using H1.out⟩

theorem overlaps_C {w : World} {bx g : Nat} {xc cur : Array Value} (h1 : w.heap[bx]? = some (.cells xc 118 (0, 0))) (h2 : w.heap[g]? = some (.cells cur 118 (0, 0))) (hne : bx ≠ g) (hc : cur.size ≠ 0) (la ca lb cb off : Nat) :
  (callFunc 170 #[.slice (some ⟨bx, 0, none⟩) la ca, .slice (some ⟨g, off, none⟩) lb cb]).run Tryz.prog w = .ok (.value (.bool false)) w := by
 rw [run_callFunc_extern Tryz.func170 (by kernel_rfl) (by kernel_rfl) (by kernel_rfl) (e := Extern.SlicesOverlaps.overlaps #[108, 108] #[4]) (by kernel_rfl),
  Lib.run_overlaps_apart w 108 4 118 Tryz.underlying108 18 (fun w => Tryz.sizeOf118 w) ⟨bx, 0, none⟩ ⟨g, off, none⟩ la ca lb cb hne 118 118 xc.size cur.size (by simp [World.shape?, h1]) (by simp [World.shape?, h2]) hc (by simp [World.frozen?, h1]) (by simp [World.frozen?, h1])]
 rfl

set_option maxHeartbeats 2000000 in
theorem insert_room_C {B w : World} {D : PH} {l : List HP} {g n cap i : Nat} {xs xc ys : List Value} (hys : ys = xs.take (i * 18) ++ xc ++ xs.drop (i * 18)) (hin : i < n) (hroom : n + 1 ≤ cap) (hxc : xc.length = 18) (hx1 : ∀ u ∈ xc, u.oneCell' = true) (bx : Nat) (hs : Sat B D w (ownS 118 18 (.slice (some ⟨g, 0, none⟩) n cap) n xs :: blk bx xc.toArray 118 :: l)) :
  Calls Tryz.prog 137 #[.slice (some ⟨g, 0, none⟩) n cap, .int .i64 i, .slice (some ⟨bx, 0, none⟩) 1 1] w fun e w' => ∃ v', e = .returned v' ∧ Sat B D w' (ownS 118 18 v' (n + 1) ys :: blk bx xc.toArray 118 :: l) := by
 obtain ⟨cur, h1, hnc, hcm, hcz, hct, hc1, hxl⟩ := hs.own_row
 have hne := h1.ne 1 0 (by omega) rfl rfl
 have hsz0 : cur.toArray.size = cur.length := by simp
 have hov := overlaps_C (h1.blk 1 rfl) (h1.blk 0 rfl) hne (by omega)
 have HS := Lib.hid h1.drew
 have HCT := Lib.hid hct
 have HC1 := Lib.hid hc1
 have HXL := Lib.hid hxl
 have HXC := Lib.hid hxc
 have HYS := Lib.hid hys
 have hcm' := hcm
 unfold maxLen at hcm'
 have hrd1 : Rd w.drew 18 (.slice (some ⟨g, (i * 18), none⟩) (n + 1 - i) (cap - i)) (n + 1 - i) ((cur.drop (i * 18)).take ((n + 1 - i) * 18)) := by
  refine ⟨by rw [List.length_take, List.length_drop]; omega, by omega, _, _, rfl, by omega, by omega, (fun h => by cases h), .inr ⟨g, _, rfl, fun j u hu => ?_⟩⟩
  rw [cell_of_row _ g _ _ _ _ h1.drew.heap_blk]
  rw [List.getElem?_take] at hu
  split at hu
  ·rw [List.getElem?_drop] at hu; simpa using hu
  ·cases hu
 have HRD := Lib.hid hrd1
 have HCS := Lib.hid (show (((cur.drop (i * 18)).take ((n + 1 - i) * 18)).take ((n - i) * 18)) = xs.drop (i * 18) by
  rw [List.take_take, Nat.min_eq_left (by omega), ← hct, List.drop_take]
  congr 1
  omega)
 have hfree : ∀ u ∈ xs.drop (i * 18), u.oneCell' = true := fun u hu => hc1 u (List.mem_of_mem_drop hu)
 have HONE := Lib.hid hfree
 clear hs h1 hct hc1 hxl hxc hys hrd1 hsz0 hfree
 have hm1 : ¬ ((1 : Int) = 0) := by omega
 have hin' : ¬ ((i : Int) = (n : Int)) := by omega
 have hw1 : IntKind.i64.wrap ((i : Int) + 1) = (i : Int) + 1 := IntWalk.i64_in _ (by omega)
 have hw2 : IntKind.i64.wrap ((n : Int) + 1) = (n : Int) + 1 := IntWalk.i64_in _ (by omega)
 have htn : ((i : Int) + 1).toNat = i + 1 := by omega
 have hb1 : (0 : Int) ≤ (i : Int) + 1 := by omega
 have hb2 : ¬ (cap = i + 1) := by omega
 have hin2 : i ≤ n := by omega
 have hb3 : (i : Int) ≤ (n : Int) + 1 := by omega
 have hb5 : i ≤ n + 1 := by omega
 have hb4 : ¬ (cap = i) := by omega
 go_enter Tryz.func137, Tryz.ntmps137
 go_wp2_with (simp only [hov])
 refine wp_region_canon [(0, false, 8), (1, false, 8), (2, false, 8), (3, false, 8), (4, false, 8), (5, false, 8), (6, false, 8), (7, false, 8), (8, true, 0)] (by kernel_rfl) (by kernel_rfl) ?_
 iterate 8 (refine wpCan_read rfl rfl (fun K hK => ?_); go_simp; refine hK _ ?_; clear hK K)
 refine wpCan_eff rfl ?_
 refine wpList_copy_Sat _ rfl _ _ 108 108 rfl 118 18 Tryz.underlying108 (fun w => Tryz.sizeOf118 w) g _ _ _ rfl cur HS.out _ _ (n - i) _ (xs.drop (i * 18)) rfl HRD.out (by omega) HCS.out (by omega) HONE.out ?_
 intro w2 h2
 have HS2 := Lib.hid h2
 clear h2 HS HRD HONE hov
 refine wpList_nil ?_
 refine And.intro ?_ ?_
 ·go_simp
 refine wpCan_nil ?_
 have hrd := rd_block (size := 18) (n := 1) (HS2.out.blk 1 rfl) (by simpa using HXC.out) (by unfold maxLen; omega)
 have hlen2 := lay_len cur ((i + 1) * 18) (xs.drop (i * 18)) (by rw [List.length_drop, HXL.out]; omega)
 have HRX := Lib.hid hrd
 have HL2 := Lib.hid hlen2
 clear hrd hlen2
 go_wp2_with (show wpList _ _ _ (⟨some 82, _, _, _, _, _⟩ :: _) _ _; refine wpList_copy_Sat _ rfl _ _ 108 108 rfl 118 18 Tryz.underlying108 (fun w => Tryz.sizeOf118 w) g _ _ _ rfl _ HS2.out _ _ 1 _ xc rfl HRX.out (by omega) (by rw [List.take_of_length_le (by simp [HXC.out])]) (by rw [HL2.out]; omega) (by simpa using hx1) ?_; intro w3 h3; have HS3 := Lib.hid h3; clear h3)
 go_ret
 refine ⟨_, rfl, HS3.out.row_own (by omega) hcm (by rw [lay_len _ _ _ (by rw [HL2.out, HXC.out]; omega), HL2.out]; exact hcz) ?_ ?_⟩
 ·have e := lay_insert cur xs xc (i * 18) 18 (n * 18) HCT.out (by omega) HXC.out (by omega)
  have o1 : ((i + 1) * 18) = i * 18 + 18 := by omega
  have o2 : (i * 18) = i * 18 := by omega
  have o3 : (n + 1) * 18 = n * 18 + 18 := by omega
  rw [HYS.out, o3, o1]
  first | exact e | (simp only [Nat.mul_one] at e ⊢; exact e)
 ·intro u hu
  rw [HYS.out] at hu
  rcases List.mem_append.1 hu with hu | hu
  ·rcases List.mem_append.1 hu with hu | hu
   ·exact HC1.out u (List.mem_of_mem_take hu)
   ·exact hx1 u hu
  ·exact HC1.out u (List.mem_of_mem_drop hu)

set_option maxHeartbeats 2000000 in
theorem insert_grow_C {B w : World} {D : PH} {l : List HP} {g n cap i : Nat} {xs xc ys : List Value} (hys : ys = xs.take (i * 18) ++ xc ++ xs.drop (i * 18)) (hin : i < n) (hroom : cap < n + 1) (hxc : xc.length = 18) (hx1 : ∀ u ∈ xc, u.oneCell' = true) (bx : Nat) (hb : (n + 1) * 200 ≤ 140737488355328)
  (hs : Sat B D w (ownS 118 18 (.slice (some ⟨g, 0, none⟩) n cap) n xs :: blk bx xc.toArray 118 :: l)) :
  Calls Tryz.prog 137 #[.slice (some ⟨g, 0, none⟩) n cap, .int .i64 i, .slice (some ⟨bx, 0, none⟩) 1 1] w fun e w' => ∃ v', e = .returned v' ∧ Sat B D w' (ownS 118 18 v' (n + 1) ys :: blk bx xc.toArray 118 :: l) := by
 obtain ⟨i0, hi, hz0, hz1, hz2⟩ := info_parts infoC
 have ho := hs.own 0 rfl
 have hle := ho.le
 obtain ⟨_, _, hv, hnc, hcm, _⟩ := ho.rd.2.2
 cases hv
 have hxl := ho.1
 have hc1 := ho.2.1
 unfold maxLen at hle hcm
 have holds : ∀ j v, (xs.take (i * 18))[j]? = some v → w.cell? ((⟨g, 0, none⟩ : Addr).add j) = some v := fun j v hj => by
  rw [add_none, Nat.zero_add]
  rw [List.getElem?_take] at hj
  split at hj
  ·exact ho.cells j v hj
  ·cases hj
 have HS := Lib.hid hs
 have HI := Lib.hid (And.intro hi (And.intro hz0 (And.intro hz1 hz2)))
 have HOLDS := Lib.hid holds
 have HXL := Lib.hid hxl
 have HC1 := Lib.hid hc1
 have HXC := Lib.hid hxc
 have HYS := Lib.hid hys
 clear hs hi hz0 hz1 hz2 holds hxl hc1 hxc hys ho
 have hm1 : ¬ ((1 : Int) = 0) := by omega
 have hin' : ¬ ((i : Int) = (n : Int)) := by omega
 have hcc : (cap : Int) < (n : Int) + 1 := by omega
 have hw1 : IntKind.i64.wrap ((i : Int) + 1) = (i : Int) + 1 := IntWalk.i64_in _ (by omega)
 have hw2 : IntKind.i64.wrap ((n : Int) + 1) = (n : Int) + 1 := IntWalk.i64_in _ (by omega)
 have hw3 : IntKind.i64.wrap ((n : Int) + 1 - (i : Int)) = (n : Int) + 1 - (i : Int) := IntWalk.i64_in _ (by omega)
 have htn : ((i : Int) + 1).toNat = i + 1 := by omega
 have hb1 : (0 : Int) ≤ (i : Int) + 1 := by omega
 have hb4 : ¬ (cap = i) := by omega
 have hin2 : i ≤ n := by omega
 have hb3 : (i : Int) ≤ (n : Int) + 1 := by omega
 have hb5 : i ≤ n + 1 := by omega
 go_enter Tryz.func137, Tryz.ntmps137
 go_upto_region 10 with (show wpList _ _ _ (⟨some 40, _, _, _, _, _⟩ :: _) _ _; refine wpList_append_zeros_Sat _ rfl _ _ 108 3 rfl 118 i0 _ 18 200 Tryz.underlying108 Tryz.underlying3 HI.out.1 HI.out.2.1 HI.out.2.2.1 HI.out.2.2.2 rfl zone_C ⟨g, 0, none⟩ i cap rfl _ (by rw [List.length_take, HXL.out]; omega) HOLDS.out (fun u hu => HC1.out u (List.mem_of_mem_take hu)) (n + 1 - i) (by simp [Act.eval]; omega) (by omega) (by omega) (by unfold maxLen; omega) (by omega) HS.out ?_; intro w2 g2 cap2 zs hzs hcap2 h2; rw [show i + (n + 1 - i) = n + 1 by omega] at h2 hcap2; have H2 := Lib.hid h2; have HZS := Lib.hid hzs; clear h2 hzs)
 obtain ⟨cur, h1, _, hcm2, hcz, hct, hc2, hcl⟩ := H2.out.own_row
 have hrx := rd_block (size := 18) (n := 1) (h1.blk 2 rfl) (by simpa using HXC.out) (by unfold maxLen; omega)
 have hg1 : ¬ (cap2 = i) := by omega
 have hg2 : ¬ (cap2 = i + 1) := by omega
 have H1 := Lib.hid h1
 have HRX := Lib.hid hrx
 have HCT := Lib.hid hct
 have HCM := Lib.hid hcm2
 clear h1 hrx hct hc2 hcl H2 HOLDS HI HS
 unfold maxLen at hcm2
 go_upto_region 11 with (show wpList _ _ _ (⟨some 45, _, _, _, _, _⟩ :: _) _ _; refine wpList_copy_Sat _ rfl _ _ 108 108 rfl 118 18 Tryz.underlying108 (fun w => Tryz.sizeOf118 w) g2 _ _ _ rfl _ H1.out _ _ 1 _ xc rfl HRX.out (by omega) (by rw [List.take_of_length_le (by simp [HXC.out])]) (by omega) (by simpa using hx1) ?_; intro w3 h3; have HS3 := Lib.hid h3; clear h3)
 have hlen2 := lay_len cur (i * 18) xc (by rw [HXC.out]; omega)
 have hrd1 : Rd w3.drew 18 (.slice (some ⟨g, (i * 18), none⟩) (n - i) (cap - i)) (n - i) (xs.drop (i * 18)) := by
  refine ⟨by rw [List.length_drop, HXL.out]; omega, by unfold maxLen; omega, _, _, rfl, by omega, by unfold maxLen; omega, (fun h => by cases h), .inr ⟨g, _, rfl, fun j u hu => ?_⟩⟩
  rw [List.getElem?_drop] at hu
  have := (HS3.out.own 1 rfl).cells _ u hu
  simpa using this
 have HS4 := Lib.hid HS3.out.drew
 have HRD := Lib.hid hrd1
 have HL2 := Lib.hid hlen2
 have HCS := Lib.hid (show (xs.drop (i * 18)).take ((n - i) * 18) = xs.drop (i * 18) by rw [List.take_of_length_le (by rw [List.length_drop, HXL.out]; omega)])
 have HFREE := Lib.hid (show ∀ u ∈ xs.drop (i * 18), u.oneCell' = true from fun u hu => HC1.out u (List.mem_of_mem_drop hu))
 clear hrd1 hlen2 H1 HRX HS3
 refine wp_region_canon [(0, false, 8), (1, false, 8), (2, false, 8), (3, false, 8), (4, false, 8), (5, false, 8), (6, false, 8), (7, false, 8), (8, true, 0)] (by kernel_rfl) (by kernel_rfl) ?_
 iterate 8 (refine wpCan_read rfl rfl (fun K hK => ?_); go_simp; refine hK _ ?_; clear hK K)
 refine wpCan_eff rfl ?_
 refine wpList_copy_Sat _ rfl _ _ 108 108 rfl 118 18 Tryz.underlying108 (fun w => Tryz.sizeOf118 w) g2 _ _ _ rfl _ HS4.out _ _ (n - i) _ (xs.drop (i * 18)) rfl HRD.out (by omega) HCS.out (by rw [HL2.out]; omega) HFREE.out ?_
 intro w5 h5
 have HS5 := Lib.hid (h5.swap.drop)
 have H5 := Lib.hid h5
 clear h5 HS4 HRD HFREE HS5
 refine wpList_nil ?_
 refine And.intro ?_ ?_
 ·go_simp
 refine wpCan_nil ?_
 go_wp2_with fail
 go_ret
 have hrow := H5.out.row_own (n := n + 1) (cap := cap2) (size := 18) (xs := ys) (by omega) HCM.out (by rw [lay_len _ _ _ (by rw [HL2.out, List.length_drop, HXL.out]; omega), HL2.out]; exact hcz) ?_ ?_
 ·exact ⟨_, rfl, hrow.swap.drop⟩
 ·have o1 : ((i + 1) * 18) = i * 18 + 18 := by omega
  have o3 : (n + 1) * 18 = n * 18 + 18 := by omega
  have hct' := HCT.out
  rw [o3] at hct'
  have e := lay_insert2 cur xs xc zs (i * 18) 18 (n * 18) hct' HXL.out (by omega) HXC.out
  rw [HYS.out, o3, o1]
  first | exact e | (simp only [Nat.mul_one] at e ⊢; exact e)
 ·intro u hu
  rw [HYS.out] at hu
  rcases List.mem_append.1 hu with hu | hu
  ·rcases List.mem_append.1 hu with hu | hu
   ·exact HC1.out u (List.mem_of_mem_take hu)
   ·exact hx1 u hu
  ·exact HC1.out u (List.mem_of_mem_drop hu)

theorem insert_C {B w : World} {D : PH} {l : List HP} {v : Value} {n i : Nat} {xs xc : List Value} (hin : i ≤ n) (hxc : xc.length = 18) (hx1 : ∀ u ∈ xc, u.oneCell' = true) (bx : Nat) (hb : (n + 1) * 200 ≤ 140737488355328)
  (hs : Sat B D w (ownS 118 18 v n xs :: blk bx xc.toArray 118 :: l)) :
  Calls Tryz.prog 137 #[v, .int .i64 i, .slice (some ⟨bx, 0, none⟩) 1 1] w fun e w' => ∃ v', e = .returned v' ∧ Sat B D w' (ownS 118 18 v' (n + 1) (xs.take (i * 18) ++ xc ++ xs.drop (i * 18)) :: blk bx xc.toArray 118 :: l) := by
 have hxl := (hs.own 0 rfl).1
 by_cases h : i = n
 ·subst h
  have := insert_end_C hxc hx1 bx hb hs
  rw [List.take_of_length_le (by omega), List.drop_of_length_le (by omega), List.append_nil]
  exact this
 ·obtain ⟨g, cap, rfl, hnc, hcm⟩ := (hs.own 0 rfl).form (by omega)
  by_cases hroom : n + 1 ≤ cap
  ·exact insert_room_C rfl (by omega) hroom hxc hx1 bx hs
  ·exact insert_grow_C rfl (by omega) (by omega) hxc hx1 bx hb hs

theorem zeros_C (w : World) : (zeroValue 118).run Tryz.prog w = .ok (.agg #[.int .i64 0, .int .i64 0, .int .i64 0, .int .i64 0, .bool false, .int .i64 0, .string ⟨#[]⟩, .slice none 0 0, .int .i64 0, .int .i64 0, .bool false, .int .i64 0, .string ⟨#[]⟩, .bool false, .int .i64 0, .string ⟨#[]⟩, .slice none 0 0, .bool false]) w := Tryz.zeroValue118 w
set_option maxHeartbeats 2000000 in
theorem delete_C {B w : World} {D : PH} {l : List HP} {v : Value} {n i : Nat} {xs ys : List Value} (hys : ys = xs.take (i * 18) ++ xs.drop ((i + 1) * 18)) (hin : i ≤ n) (hs : Sat B D w (ownS 118 18 v (n + 1) xs :: l)) :
  Calls Tryz.prog 156 #[v, .int .i64 i, .int .i64 (i + 1)] w fun e w' => ∃ v', e = .returned v' ∧ Sat B D w' (ownS 118 18 v' n ys :: l) := by
 obtain ⟨i0, hi, hz0, hz1, hz2⟩ := info_parts infoC
 obtain ⟨g, cap, rfl, hnc, hcm⟩ := (hs.own 0 rfl).form (by omega)
 have ho := hs.own 0 rfl
 have hxl := ho.1
 have hc1 := ho.2.1
 have hcm' := hcm
 unfold maxLen at hcm
 have hcut := (hs.own_cut (m := i) (c := cap) (by omega) (by omega) (by omega)).drew
 have hrd1 : ∀ o, (i + 1 < cap → o = ((i + 1) * 18)) → Rd w.drew 18 (.slice (some ⟨g, o, none⟩) (n - i) (cap - (i + 1))) (n - i) (xs.drop ((i + 1) * 18)) := fun o ho' => by
  refine ⟨by rw [List.length_drop, hxl, ← Nat.sub_mul]; congr 1; omega, by unfold maxLen; omega, _, _, rfl, by omega, by unfold maxLen; omega, (fun h => by cases h), ?_⟩
  by_cases hc : n - i = 0
  ·exact .inl hc
  ·refine .inr ⟨g, _, rfl, fun j u hu => ?_⟩
   rw [ho' (by omega)]
   rw [List.getElem?_drop] at hu
   have := ho.cells _ u hu
   simpa using this
 have HC := Lib.hid hcut
 have HRD := Lib.hid hrd1
 have HI := Lib.hid (And.intro hi (And.intro hz0 (And.intro hz1 hz2)))
 have HXL := Lib.hid hxl
 have HC1 := Lib.hid hc1
 have HYS := Lib.hid hys
 have HFREE := Lib.hid (show ∀ u ∈ xs.drop ((i + 1) * 18), u.oneCell' = true from fun u hu => hc1 u (List.mem_of_mem_drop hu))
 clear hs ho hxl hc1 hcut hrd1 hi hz0 hz1 hz2 hys
 have hij : ¬ ((i : Int) = (i : Int) + 1) := by omega
 have htn : ((i : Int) + 1).toNat = i + 1 := by omega
 have hb0 : (0 : Int) ≤ (i : Int) + 1 := by omega
 have hb1 : (i : Int) ≤ (i : Int) + 1 := by omega
 have hb2 : (i : Int) + 1 ≤ (n : Int) + 1 := by omega
 have hb3 : (n : Int) + 1 ≤ (cap : Int) := by omega
 have hb4 : (i : Int) ≤ (cap : Int) := by omega
 have hb5 : i ≤ cap := by omega
 have hb7 : ¬ (cap = n) := by omega
 go_enter Tryz.func156, Tryz.ntmps156
 go_upto_region 5 with (fail)
 by_cases hci : cap = i + 1
 ·have hrd := HRD.out 0 (by omega)
  have HR := Lib.hid hrd
  clear hrd HRD
  subst hci
  obtain rfl : n = i := by omega
  refine wp_region_canon [(0, false, 6), (1, false, 6), (2, false, 6), (3, false, 6), (4, false, 6), (5, false, 6), (6, true, 0), (7, false, 999)] (by kernel_rfl) (by kernel_rfl) ?_
  iterate 6 (refine wpCan_read rfl rfl (fun K hK => ?_); go_simp; refine hK _ ?_; clear hK K)
  refine wpCan_eff rfl ?_
  refine wpList_append_room_Sat _ rfl _ _ 108 rfl 118 i0 18 Tryz.underlying108 HI.out.1 HI.out.2.2.1 g n _ _ rfl HC.out (.slice (some ⟨g, 0, none⟩) 0 0) 0 _ rfl (by simpa using HR.out) HFREE.out (by omega) ?_
  intro w3 h3
  rw [Nat.add_zero] at h3 ⊢
  obtain ⟨cur, h4, _, _, hcz, hct, _, hcl⟩ := h3.own_row
  have H4 := Lib.hid h4
  have HCT := Lib.hid hct
  clear h3 h4 hct hcl HC HR
  refine wpList_nil ?_
  refine And.intro ?_ ?_
  ·go_simp
  iterate 1 (refine wpCan_read rfl rfl (fun K hK => ?_); go_simp; refine hK _ ?_; clear hK K)
  refine wpCan_nil ?_
  go_wp2_with (show wpList _ _ _ (⟨none, .call _, _, _, _, _⟩ :: _) _ _; refine wpList_clear_Sat _ rfl _ 108 rfl 118 _ Tryz.underlying108 (fun w => zeros_C w) g _ 1 _ rfl cur H4.out (by omega) (by simp [size_zeroCells, Value.cells]; omega) zone1_C ?_; intro w5 h5; have H5 := Lib.hid h5; clear h5)
  go_ret
  refine ⟨_, rfl, H5.out.row_own (by omega) hcm' (by rw [lay_len _ _ _ (by simp [size_zeroCells, Value.cells]; omega)]; exact hcz) ?_ ?_⟩
  ·unfold lay
   rw [List.append_assoc, List.take_append_of_le_length (by rw [List.length_take]; omega), HYS.out, ← HCT.out, List.take_take]
   congr 1
   omega
  ·intro u hu
   rw [HYS.out] at hu
   exact (List.mem_append.1 hu).elim (fun h => HC1.out u (List.mem_of_mem_take h)) (fun h => HC1.out u (List.mem_of_mem_drop h))
 ·have hrd := HRD.out ((i + 1) * 18) (fun _ => rfl)
  have HR := Lib.hid hrd
  clear hrd HRD
  refine wp_region_canon [(0, false, 6), (1, false, 6), (2, false, 6), (3, false, 6), (4, false, 6), (5, false, 6), (6, true, 0), (7, false, 999)] (by kernel_rfl) (by kernel_rfl) ?_
  iterate 6 (refine wpCan_read rfl rfl (fun K hK => ?_); go_simp; refine hK _ ?_; clear hK K)
  refine wpCan_eff rfl ?_
  refine wpList_append_room_Sat _ rfl _ _ 108 rfl 118 i0 18 Tryz.underlying108 HI.out.1 HI.out.2.2.1 g i _ _ rfl HC.out (.slice (some ⟨g, ((i + 1) * 18), none⟩) (n - i) (cap - (i + 1))) (n - i) _ rfl HR.out HFREE.out (by omega) ?_
  intro w3 h3
  rw [show i + (n - i) = n by omega] at h3 ⊢
  obtain ⟨cur, h4, _, _, hcz, hct, _, hcl⟩ := h3.own_row
  have H4 := Lib.hid h4
  have HCT := Lib.hid hct
  clear h3 h4 hct hcl HC HR
  refine wpList_nil ?_
  refine And.intro ?_ ?_
  ·go_simp
  iterate 1 (refine wpCan_read rfl rfl (fun K hK => ?_); go_simp; refine hK _ ?_; clear hK K)
  refine wpCan_nil ?_
  go_wp2_with (show wpList _ _ _ (⟨none, .call _, _, _, _, _⟩ :: _) _ _; refine wpList_clear_Sat _ rfl _ 108 rfl 118 _ Tryz.underlying108 (fun w => zeros_C w) g _ 1 _ rfl cur H4.out (by omega) (by simp [size_zeroCells, Value.cells]; omega) zone1_C ?_; intro w5 h5; have H5 := Lib.hid h5; clear h5)
  go_ret
  refine ⟨_, rfl, H5.out.row_own (by omega) hcm' (by rw [lay_len _ _ _ (by simp [size_zeroCells, Value.cells]; omega)]; exact hcz) ?_ ?_⟩
  ·unfold lay
   rw [List.append_assoc, List.take_append_of_le_length (by rw [List.length_take]; omega), HYS.out, ← HCT.out, List.take_take]
   congr 1
   omega
  ·intro u hu
   rw [HYS.out] at hu
   exact (List.mem_append.1 hu).elim (fun h => HC1.out u (List.mem_of_mem_take h)) (fun h => HC1.out u (List.mem_of_mem_drop h))
end Go.Proofs.YtgljdkjepdknnaaGreatDoor

/- Are two rows the same (row.Same, ratlineref02.Same). -/
namespace Go.Proofs.YtgljdkjepdknnaaGreatDoor
open Go.ChangeShapes Go.WideShapes Go.ChangeAt Go.RowKit
set_option maxRecDepth 100000
set_option linter.unusedSimpArgs false

set_option maxHeartbeats 4000000 in
theorem rowEqual_ok {w : World} {v1 v2 : Value} {l1 l2 : List Val} (h1 : RowRd w v1 l1) (h2 : RowRd w v2 l2) :
  Calls Tryz.prog 193 #[v1, v2] w fun e w' => e = .returned (.bool (decide (l1 = l2))) ∧ ∃ n, w' = w.drewN n := by
 obtain ⟨_, m1, a1, c1, rfl, n1, _, _, g1⟩ := h1
 obtain ⟨_, m2, a2, c2, rfl, n2, _, _, g2⟩ := h2
 unfold maxLen at m1 m2
 by_cases hlen : l1.length = l2.length
 ·rw [← hlen] at g2
  have G1 := Lib.hid g1
  have G2 := Lib.hid g2
  clear g1 g2
  generalize hL : l1.length = L at *
  rw [← hlen]
  go_enter Tryz.func193, Tryz.ntmps193
  go_wp2_with fail
  go_loopw [13] (fun i wr => ∃ k : Nat, i = .int .i64 k ∧ k ≤ L ∧ l1.take k = l2.take k ∧ ∃ n, wr = w.drewN n) (fun i _ => L - (intOf i).toNat)
  case atStart => exact ⟨0, rfl, by omega, rfl, 0, rfl⟩
  case round =>
   obtain ⟨k, rfl, hk, ht, n0, rfl⟩ := hrel
   have HT := Lib.hid ht
   clear ht
   by_cases hlt : k < L
   ·obtain ⟨a, ha⟩ : ∃ a, l1[k]? = some a := ⟨l1[k]'(by omega), List.getElem?_eq_getElem (by omega)⟩
    obtain ⟨b, hb⟩ : ∃ b, l2[k]? = some b := ⟨l2[k]'(by omega), List.getElem?_eq_getElem (by omega)⟩
    rcases G1.out with h0 | ⟨b1, o1, rfl, hc1⟩
    ·omega
    rcases G2.out with h0 | ⟨b2, o2, rfl, hc2⟩
    ·omega
    have x0 := hc1 _ _ (flat_get Val.len l1 k a ha 0 _ rfl)
    have x1 := hc1 _ _ (flat_get Val.len l1 k a ha 1 _ rfl)
    have x2 := hc1 _ _ (flat_get Val.len l1 k a ha 2 _ rfl)
    have y0 := hc2 _ _ (flat_get Val.len l2 k b hb 0 _ rfl)
    have y1 := hc2 _ _ (flat_get Val.len l2 k b hb 1 _ rfl)
    have y2 := hc2 _ _ (flat_get Val.len l2 k b hb 2 _ rfl)
    rw [Nat.add_zero] at x0 y0
    rw [← Nat.add_assoc] at x1 x2 y1 y2
    have HA := Lib.hid ha
    have HB := Lib.hid hb
    clear ha hb hc1 hc2
    by_cases hab : a = b
    ·subst hab
     go_wp2_with fail
     go_quiet (fail)
     go_wp2_with fail
     go_roundw
     case rel => exact ⟨k + 1, by go_num, by omega, take_succ_eq HT.out HA.out HB.out, _, rfl⟩
     case measure => simp [intOf]; omega
    ·have hv : valEqB a.t a.n a.s b.t b.n b.s = false := by rw [valEqB_val]; exact decide_eq_false hab
     have hne : decide (l1 = l2) = false := decide_eq_false (fun e => by
      have h1 := HA.out
      have h2 := HB.out
      rw [e, h2] at h1
      exact hab (Option.some.inj h1).symm)
     have HNE := Lib.hid hne
     clear hne
     go_wp2_with fail
     go_quiet (fail)
     go_wp2_with fail
     go_ret
     exact ⟨by rw [HNE.out]; rfl, _, World.drewN_drewN _ _ _⟩
   ·have heq : decide (l1 = l2) = true := decide_eq_true (take_all_eq HT.out (by omega) (by omega))
    have HEQ := Lib.hid heq
    clear heq
    go_wp2_with fail
    go_ret
    exact ⟨by rw [HEQ.out]; rfl, n0, rfl⟩
 ·have hne : decide (l1 = l2) = false := decide_eq_false (fun e => hlen (by rw [e]))
  have hbe : ((l1.length : Int) == (l2.length : Int)) = false := by simp; omega
  have HNE := Lib.hid hne
  clear hne g1 g2
  go_enter Tryz.func193, Tryz.ntmps193
  go_wp2_with fail
  go_ret
  exact ⟨by rw [HNE.out]; rfl, 0, rfl⟩

set_option maxHeartbeats 4000000 in
theorem rsame_ok {w : World} {v1 v2 : Value} {l1 l2 : List Val} (h1 : RowRd w v1 l1) (h2 : RowRd w v2 l2) :
  Calls Tryz.prog 96 #[v1, v2] w fun e w' => e = .returned (.bool (decide (l1 = l2))) ∧ ∃ n, w' = w.drewN n := by
 obtain ⟨_, m1, a1, c1, rfl, n1, _, _, g1⟩ := h1
 obtain ⟨_, m2, a2, c2, rfl, n2, _, _, g2⟩ := h2
 unfold maxLen at m1 m2
 by_cases hlen : l1.length = l2.length
 ·rw [← hlen] at g2
  have G1 := Lib.hid g1
  have G2 := Lib.hid g2
  clear g1 g2
  generalize hL : l1.length = L at *
  rw [← hlen]
  go_enter Tryz.func96, Tryz.ntmps96
  go_wp2_with fail
  go_loopw [5] (fun i wr => ∃ k : Nat, i = .int .i64 k ∧ k ≤ L ∧ l1.take k = l2.take k ∧ ∃ n, wr = w.drewN n) (fun i _ => L - (intOf i).toNat)
  case atStart => exact ⟨0, rfl, by omega, rfl, 0, rfl⟩
  case round =>
   obtain ⟨k, rfl, hk, ht, n0, rfl⟩ := hrel
   have HT := Lib.hid ht
   clear ht
   by_cases hlt : k < L
   ·obtain ⟨a, ha⟩ : ∃ a, l1[k]? = some a := ⟨l1[k]'(by omega), List.getElem?_eq_getElem (by omega)⟩
    obtain ⟨b, hb⟩ : ∃ b, l2[k]? = some b := ⟨l2[k]'(by omega), List.getElem?_eq_getElem (by omega)⟩
    rcases G1.out with h0 | ⟨b1, o1, rfl, hc1⟩
    ·omega
    rcases G2.out with h0 | ⟨b2, o2, rfl, hc2⟩
    ·omega
    have x0 := hc1 _ _ (flat_get Val.len l1 k a ha 0 _ rfl)
    have x1 := hc1 _ _ (flat_get Val.len l1 k a ha 1 _ rfl)
    have x2 := hc1 _ _ (flat_get Val.len l1 k a ha 2 _ rfl)
    have y0 := hc2 _ _ (flat_get Val.len l2 k b hb 0 _ rfl)
    have y1 := hc2 _ _ (flat_get Val.len l2 k b hb 1 _ rfl)
    have y2 := hc2 _ _ (flat_get Val.len l2 k b hb 2 _ rfl)
    rw [Nat.add_zero] at x0 y0
    rw [← Nat.add_assoc] at x1 x2 y1 y2
    have HA := Lib.hid ha
    have HB := Lib.hid hb
    clear ha hb hc1 hc2
    by_cases hab : a = b
    ·subst hab
     go_wp2_with fail
     go_quiet (fail)
     go_wp2_with fail
     go_roundw
     case rel => exact ⟨k + 1, by go_num, by omega, take_succ_eq HT.out HA.out HB.out, _, rfl⟩
     case measure => simp [intOf]; omega
    ·have hv : valEqB a.t a.n a.s b.t b.n b.s = false := by rw [valEqB_val]; exact decide_eq_false hab
     have hne : decide (l1 = l2) = false := decide_eq_false (fun e => by
      have h1 := HA.out
      have h2 := HB.out
      rw [e, h2] at h1
      exact hab (Option.some.inj h1).symm)
     have HNE := Lib.hid hne
     clear hne
     go_wp2_with fail
     go_quiet (fail)
     go_wp2_with fail
     go_ret
     exact ⟨by rw [HNE.out]; rfl, _, World.drewN_drewN _ _ _⟩
   ·have heq : decide (l1 = l2) = true := decide_eq_true (take_all_eq HT.out (by omega) (by omega))
    have HEQ := Lib.hid heq
    clear heq
    go_wp2_with fail
    go_ret
    exact ⟨by rw [HEQ.out]; rfl, n0, rfl⟩
 ·have hne : decide (l1 = l2) = false := decide_eq_false (fun e => hlen (by rw [e]))
  have hbe : ((l1.length : Int) == (l2.length : Int)) = false := by simp; omega
  have HNE := Lib.hid hne
  clear hne g1 g2
  go_enter Tryz.func96, Tryz.ntmps96
  go_wp2_with fail
  go_ret
  exact ⟨by rw [HNE.out]; rfl, 0, rfl⟩

theorem rowSame_ok {w : World} {v1 v2 : Value} {l1 l2 : List Val} (h1 : RowRd w v1 l1) (h2 : RowRd w v2 l2) :
  Calls Tryz.prog 164 #[v1, v2] w fun e w' => e = .returned (.bool (decide (l1 = l2))) ∧ ∃ n, w' = w.drewN n := by
 have HE := Lib.hid (rowEqual_ok h1 h2)
 clear h1 h2
 generalize decide (l1 = l2) = r at *
 go_enter Tryz.func164, Tryz.ntmps164
 go_wp2_with (go_at_call 193; refine HE.out.mono ?_; rintro e1 w1 ⟨rfl, n, rfl⟩; clear HE)
 go_ret
 exact ⟨rfl, n, rfl⟩
end Go.Proofs.YtgljdkjepdknnaaGreatDoor

/- IndexFunc, ContainsFunc over predicates. (printed by genq.py) -/
namespace Go.Proofs.YtgljdkjepdknnaaGreatDoor
open Go.ChangeShapes Go.WideShapes Go.ChangeAt Go.RowKit
set_option maxRecDepth 100000
set_option linter.unusedSimpArgs false


set_option maxHeartbeats 1000000 in
theorem indexFunc_P {w : World} {v : Value} {xs : List (PredE)} {F : Nat} {caps : Array Value} (p : PredE → Bool) (hrd : Rd w 9 v xs.length (xs.flatMap PredE.cells)) (HF : ∀ x ∈ xs, PredF F caps w (PredE.cells x) (p x)) :
  Calls Tryz.prog 203 #[v, .func (.func F) #[] caps] w fun e w' => e = .returned (.int .i64 (idxI p xs)) ∧ Kept (fun _ => False) w w' := by
 obtain ⟨_, hml, ao, cap, rfl, hnc, hcm, _⟩ := id hrd
 unfold maxLen at hml hcm
 have HRD := Lib.hid hrd
 have HFF := Lib.hid HF
 clear hrd HF
 obtain ⟨N, hN⟩ : ∃ N, xs.length = N := ⟨_, rfl⟩
 have HN := Lib.hid hN
 rw [hN] at HRD hml hnc ⊢
 clear hN
 go_enter Tryz.func203, Tryz.ntmps203
 go_wp2_with fail
 go_loopw [8] (fun i wr => ∃ j : Nat, i = .int .i64 j ∧ j ≤ N ∧ (∀ x ∈ xs.take j, p x = false) ∧ Kept (fun _ => False) w wr) (fun i _ => N - (intOf i).toNat)
 case atStart => exact ⟨0, rfl, by omega, fun x hx => by simp at hx, Kept.refl _ _⟩
 case round =>
  obtain ⟨j, rfl, hj, hp, hk⟩ := hrel
  have HP := Lib.hid hp
  have HK := Lib.hid hk
  clear hp hk
  by_cases hlt : j < N
  ·have hi : (j : Int) < (N : Int) := by omega
   obtain ⟨x, hx⟩ : ∃ x, xs[j]? = some x := ⟨xs[j]'(by rw [HN.out]; exact hlt), List.getElem?_eq_getElem _⟩
   obtain ⟨g, o, rfl, hrng⟩ := elem_range PredE.len (HRD.out.kept HK.out (fun _ _ h => h)) hx HN.out
   have HL := Lib.hid (loadPr hrng)
   have HX := Lib.hid hx
   obtain ⟨hent, hcall⟩ := HFF.out x (List.mem_of_getElem? hx)
   unfold Enters at hent
   have HC := Lib.hid (hcall wr HK.out)
   clear hx hrng hcall
   cases hpx : p x
   ·rw [hpx] at HC
    have HPX := Lib.hid hpx
    clear hpx
    go_wp2_with (first | (refine wpList_ld rfl _ _ rfl _ _ rfl _ HL.out ?_) | (refine HC.out.mono ?_; rintro e1 w1 ⟨rfl, hk1⟩; have HK1 := Lib.hid (HK.out.trans hk1 (fun _ h => h.elim)); clear hk1 HC HL))
    go_roundw
    case rel => exact ⟨j + 1, by go_num, by omega, mem_take_succ HP.out HX.out HPX.out, HK1.out⟩
    case measure => simp [intOf]; omega
   ·rw [hpx] at HC
    have HPX := Lib.hid hpx
    clear hpx
    go_wp2_with (first | (refine wpList_ld rfl _ _ rfl _ _ rfl _ HL.out ?_) | (refine HC.out.mono ?_; rintro e1 w1 ⟨rfl, hk1⟩; have HK1 := Lib.hid (HK.out.trans hk1 (fun _ h => h.elim)); clear hk1 HC HL))
    go_ret
    exact ⟨by rw [idxI_at HP.out HX.out HPX.out]; rfl, HK1.out⟩
  ·have hi : ¬ ((j : Int) < (N : Int)) := by omega
   have he : idxI p xs = -1 := idxI_none (by have := HP.out; rwa [List.take_of_length_le (by rw [HN.out]; omega)] at this)
   have HE := Lib.hid he
   clear he
   go_wp2_with fail
   go_ret
   exact ⟨by rw [HE.out]; rfl, HK.out⟩
set_option maxHeartbeats 1000000 in
theorem containsFunc_P {w : World} {v : Value} {xs : List (PredE)} {F : Nat} {caps : Array Value} (p : PredE → Bool) (hrd : Rd w 9 v xs.length (xs.flatMap PredE.cells)) (HF : ∀ x ∈ xs, PredF F caps w (PredE.cells x) (p x)) :
  Calls Tryz.prog 190 #[v, .func (.func F) #[] caps] w fun e w' => e = .returned (.bool (xs.any p)) ∧ Kept (fun _ => False) w w' := by
 have H := Lib.hid (indexFunc_P p hrd HF)
 rw [← idxI_any]
 clear hrd HF
 generalize idxI p xs = k at *
 go_enter Tryz.func190, Tryz.ntmps190
 go_wp2_with (go_at_call 203; refine H.out.mono ?_; rintro e1 w1 ⟨rfl, hk1⟩; have HK1 := Lib.hid hk1; clear hk1 H)
 go_ret
 exact ⟨rfl, HK1.out⟩
end Go.Proofs.YtgljdkjepdknnaaGreatDoor
