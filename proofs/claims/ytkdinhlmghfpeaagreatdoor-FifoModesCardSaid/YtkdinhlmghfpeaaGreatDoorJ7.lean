/- Joined texts: What somebody holds of the same. (printed by genq.py) Whether something is free; how many wait for more. (printed by genq.py) -/
import Derived.Test.YtkdinhlmghfpeaaGreatDoorJ6
import Derived.Test.YtkdinhlmghfpeaaGreatDoorJ5
/- What somebody holds of the same. (printed by genq.py) -/
namespace Go.Proofs.YtkdinhlmghfpeaaGreatDoor
open Go.ChangeShapes Go.WideShapes Go.ChangeAt Go.RowKit
set_option maxRecDepth 100000
set_option linter.unusedSimpArgs false


theorem same_M {w : World} (a b : Int) : Calls Tryz.prog 42 #[.int .i64 a, .int .i64 b] w fun e w' => e = .returned (.bool (RM.same a b)) ∧ Kept (fun _ => False) w w' := by
  go_enter Tryz.func42, Tryz.ntmps42
  go_wp2_with fail
  go_ret
  exact ⟨rfl, Kept.refl _ _⟩
theorem conf_M {w : World} (a b : Int) (he : Env w) : Calls Tryz.prog 43 #[.int .i64 a, .int .i64 b] w fun e w' => e = .returned (.bool (RM.conf a b)) ∧ Kept (fun _ => False) w w' := by
  have HF := Lib.hid (Fits_ok a b w he.2)
  have HR := Lib.hid (show RM.conf a b = !fitsM a b from rfl)
  rw [HR.out]
  clear he HR
  generalize fitsM a b = r at *
  go_enter Tryz.func43, Tryz.ntmps43
  go_wp2_with (go_at_call 44; refine HF.out.mono ?_; rintro e w' ⟨rfl, rfl⟩; clear HF)
  go_ret
  exact ⟨rfl, Kept.refl _ _⟩
set_option maxHeartbeats 2000000 in
theorem ownF_M {w : World} {b1 b2 b3 q : Nat} {o : Int} {c : Int} {hv wv : Value} (h1 : w.heap[b1]? = some (.cells #[.int .i64 o] 3 (0, 0))) (h2 : w.heap[b2]? = some (.cells #[.pointer (some ⟨q, 0, none⟩)] 24 (0, 0))) (h3 : w.heap[b3]? = some (.cells (ccM c) 27 (0, 0)))
    (hq : w.heap[q]? = some (.cells #[.func (.func 42) #[] #[], .func (.func 43) #[] #[], .func (.func 45) #[] #[], .func (.func 46) #[] #[], hv, wv] tQM (0, 0))) (x : Ent Int)
    : PredF 118 #[.pointer (some ⟨b1, 0, none⟩), .pointer (some ⟨b2, 0, none⟩), .pointer (some ⟨b3, 0, none⟩)] w (cellsM x) (sameE RM o (cdM c) (entM x)) := by
  refine ⟨enters_of Tryz.func118 (by kernel_rfl) rfl, fun W hW => ?_⟩
  obtain ⟨W1, hW1, hk1, hbx, hb1⟩ := two_blocks (kept_blk hW h1) (cellsM x).toArray tEnM
  have hk2 := hW.trans hk1 (fun _ h => h.elim)
  have HW1 := Lib.hid hW1
  have HK1 := Lib.hid hk1
  have HBX := Lib.hid hbx
  obtain ⟨c0, _⟩ := cells1 hb1
  obtain ⟨d0, _⟩ := cells1 (blk_kept hk2 h2)
  obtain ⟨e0, _⟩ := cells1 (blk_kept hk2 h3)
  obtain ⟨q0, q1, q2, q3, q4, q5, _⟩ := cells6 (blk_kept hk2 hq)
  clear h1 h2 h3 hq hW hW1 hk1 hk2 hbx hb1
  show Calls Tryz.prog 118 #[.agg (cellsM x).toArray, .pointer (some ⟨b1, 0, none⟩), .pointer (some ⟨b2, 0, none⟩), .pointer (some ⟨b3, 0, none⟩)] W _
  by_cases ho : x.o = o
  · have HO := Lib.hid (show sameE RM o (cdM c) (entM x) = RM.same (entM x).c (cdM c) by unfold sameE; simp [ho])
    rw [HO.out]
    go_enter Tryz.func118, Tryz.ntmps118
    go_upto_region 1 with fail
    rw [← HW1.out]
    clear HW1 HO
    generalize W.heap.size = bx at HBX ⊢
    obtain ⟨x0, x1, _⟩ := boxM HBX.out
    rw [ho] at x0
    clear ho
    refine wp_region_canon [(0, false, 13), (1, false, 13), (2, false, 13), (3, false, 13), (4, false, 13), (5, false, 13), (6, false, 13), (7, false, 13), (8, false, 13), (9, false, 13), (10, false, 13), (11, false, 13), (12, false, 13), (13, true, 0), (14, false, 999), (15, false, 999)] (by kernel_rfl) (by kernel_rfl) ?_
    iterate 5 (refine wpCan_read rfl rfl (fun K hK => ?_); go_simp; refine hK _ ?_; clear hK K)
    first | (refine wpCan_no rfl rfl ?_; simp only [Act.put, List.setIfInBounds_toArray, List.set_cons_succ, List.set_cons_zero, List.getElem_toArray, List.getElem_cons_succ, List.getElem_cons_zero]) | (refine wpCan_yes rfl rfl (fun K hK => ?_); go_simp; refine hK _ ?_; clear hK K)
    first | (refine wpCan_no rfl rfl ?_; simp only [Act.put, List.setIfInBounds_toArray, List.set_cons_succ, List.set_cons_zero, List.getElem_toArray, List.getElem_cons_succ, List.getElem_cons_zero]) | (refine wpCan_yes rfl rfl (fun K hK => ?_); go_simp; refine hK _ ?_; clear hK K)
    first | (refine wpCan_no rfl rfl ?_; simp only [Act.put, List.setIfInBounds_toArray, List.set_cons_succ, List.set_cons_zero, List.getElem_toArray, List.getElem_cons_succ, List.getElem_cons_zero]) | (refine wpCan_yes rfl rfl (fun K hK => ?_); go_simp; refine hK _ ?_; clear hK K)
    first | (refine wpCan_no rfl rfl ?_; simp only [Act.put, List.setIfInBounds_toArray, List.set_cons_succ, List.set_cons_zero, List.getElem_toArray, List.getElem_cons_succ, List.getElem_cons_zero]) | (refine wpCan_yes rfl rfl (fun K hK => ?_); go_simp; refine hK _ ?_; clear hK K)
    first | (refine wpCan_no rfl rfl ?_; simp only [Act.put, List.setIfInBounds_toArray, List.set_cons_succ, List.set_cons_zero, List.getElem_toArray, List.getElem_cons_succ, List.getElem_cons_zero]) | (refine wpCan_yes rfl rfl (fun K hK => ?_); go_simp; refine hK _ ?_; clear hK K)
    first | (refine wpCan_no rfl rfl ?_; simp only [Act.put, List.setIfInBounds_toArray, List.set_cons_succ, List.set_cons_zero, List.getElem_toArray, List.getElem_cons_succ, List.getElem_cons_zero]) | (refine wpCan_yes rfl rfl (fun K hK => ?_); go_simp; refine hK _ ?_; clear hK K)
    first | (refine wpCan_no rfl rfl ?_; simp only [Act.put, List.setIfInBounds_toArray, List.set_cons_succ, List.set_cons_zero, List.getElem_toArray, List.getElem_cons_succ, List.getElem_cons_zero]) | (refine wpCan_yes rfl rfl (fun K hK => ?_); go_simp; refine hK _ ?_; clear hK K)
    first | (refine wpCan_no rfl rfl ?_; simp only [Act.put, List.setIfInBounds_toArray, List.set_cons_succ, List.set_cons_zero, List.getElem_toArray, List.getElem_cons_succ, List.getElem_cons_zero]) | (refine wpCan_yes rfl rfl (fun K hK => ?_); go_simp; refine hK _ ?_; clear hK K)
    refine wpCan_eff rfl ?_
    refine wpList_do rfl (fun K hK => ?_)
    go_simp
    refine (same_M _ _).mono ?_
    rintro e2 w2 ⟨rfl, hk⟩
    have HK2 := Lib.hid (HK1.out.drew.trans hk (fun _ h => h.elim))
    clear hk
    refine hK _ _ ?_
    clear hK K
    refine wpList_nil ?_
    refine And.intro ?_ ?_
    · go_simp
    iterate 2 (refine wpCan_read rfl rfl (fun K hK => ?_); go_simp; refine hK _ ?_; clear hK K)
    refine wpCan_nil ?_
    go_wp2_with fail
    go_ret
    exact ⟨rfl, HK2.out⟩
  · have HO := Lib.hid (show sameE RM o (cdM c) (entM x) = false by unfold sameE; simp [ho])
    have hne : (x.o == o) = false := by simpa using ho
    go_enter Tryz.func118, Tryz.ntmps118
    go_upto_region 1 with fail
    rw [← HW1.out]
    clear HW1
    generalize W.heap.size = bx at HBX ⊢
    have x0 := (boxM HBX.out).1
    clear ho
    refine wp_region_canon [(0, false, 13), (1, false, 13), (2, false, 13), (3, false, 13), (4, false, 13), (5, false, 13), (6, false, 13), (7, false, 13), (8, false, 13), (9, false, 13), (10, false, 13), (11, false, 13), (12, false, 13), (13, true, 0), (14, false, 999), (15, false, 999)] (by kernel_rfl) (by kernel_rfl) ?_
    iterate 5 (refine wpCan_read rfl rfl (fun K hK => ?_); go_simp; refine hK _ ?_; clear hK K)
    first | (refine wpCan_no rfl rfl ?_; simp only [Act.put, List.setIfInBounds_toArray, List.set_cons_succ, List.set_cons_zero, List.getElem_toArray, List.getElem_cons_succ, List.getElem_cons_zero]) | (refine wpCan_yes rfl rfl (fun K hK => ?_); go_simp; refine hK _ ?_; clear hK K)
    first | (refine wpCan_no rfl rfl ?_; simp only [Act.put, List.setIfInBounds_toArray, List.set_cons_succ, List.set_cons_zero, List.getElem_toArray, List.getElem_cons_succ, List.getElem_cons_zero]) | (refine wpCan_yes rfl rfl (fun K hK => ?_); go_simp; refine hK _ ?_; clear hK K)
    first | (refine wpCan_no rfl rfl ?_; simp only [Act.put, List.setIfInBounds_toArray, List.set_cons_succ, List.set_cons_zero, List.getElem_toArray, List.getElem_cons_succ, List.getElem_cons_zero]) | (refine wpCan_yes rfl rfl (fun K hK => ?_); go_simp; refine hK _ ?_; clear hK K)
    first | (refine wpCan_no rfl rfl ?_; simp only [Act.put, List.setIfInBounds_toArray, List.set_cons_succ, List.set_cons_zero, List.getElem_toArray, List.getElem_cons_succ, List.getElem_cons_zero]) | (refine wpCan_yes rfl rfl (fun K hK => ?_); go_simp; refine hK _ ?_; clear hK K)
    first | (refine wpCan_no rfl rfl ?_; simp only [Act.put, List.setIfInBounds_toArray, List.set_cons_succ, List.set_cons_zero, List.getElem_toArray, List.getElem_cons_succ, List.getElem_cons_zero]) | (refine wpCan_yes rfl rfl (fun K hK => ?_); go_simp; refine hK _ ?_; clear hK K)
    first | (refine wpCan_no rfl rfl ?_; simp only [Act.put, List.setIfInBounds_toArray, List.set_cons_succ, List.set_cons_zero, List.getElem_toArray, List.getElem_cons_succ, List.getElem_cons_zero]) | (refine wpCan_yes rfl rfl (fun K hK => ?_); go_simp; refine hK _ ?_; clear hK K)
    first | (refine wpCan_no rfl rfl ?_; simp only [Act.put, List.setIfInBounds_toArray, List.set_cons_succ, List.set_cons_zero, List.getElem_toArray, List.getElem_cons_succ, List.getElem_cons_zero]) | (refine wpCan_yes rfl rfl (fun K hK => ?_); go_simp; refine hK _ ?_; clear hK K)
    first | (refine wpCan_no rfl rfl ?_; simp only [Act.put, List.setIfInBounds_toArray, List.set_cons_succ, List.set_cons_zero, List.getElem_toArray, List.getElem_cons_succ, List.getElem_cons_zero]) | (refine wpCan_yes rfl rfl (fun K hK => ?_); go_simp; refine hK _ ?_; clear hK K)
    refine wpCan_eff rfl ?_
    refine wpList_not rfl ?_
    simp only [Act.put, List.setIfInBounds_toArray, List.set_cons_succ, List.set_cons_zero]
    refine wpList_nil ?_
    refine And.intro ?_ ?_
    · go_simp
    iterate 2 (refine wpCan_read rfl rfl (fun K hK => ?_); go_simp; refine hK _ ?_; clear hK K)
    refine wpCan_nil ?_
    go_wp2_with fail
    go_ret
    exact ⟨by rw [HO.out]; rfl, HK1.out.drew⟩
set_option maxHeartbeats 2000000 in
theorem own_M {B w : World} {D D' : PH} {l : List HP} {q : Nat} {Q : Qm Int} (o : Int) (c : Int)
    (h : Sat B D w (queM D' q Q :: l)) :
    Calls Tryz.prog 81 #[.pointer (some ⟨q, 0, none⟩), .int .i64 o, cvM c] w fun e w' => e = .returned (.int .i64 (idxI (sameE RM o (cdM c)) Q.held)) ∧ Kept (fun _ => False) w w' := by
  obtain ⟨hv, wv, hs, ws, hr1, hr2, h1⟩ := queOpen_M h
  obtain ⟨W1, hW1, hk1, hb1, hb2, hb3⟩ := alloc3 w #[.pointer (some ⟨q, 0, none⟩)] #[.int .i64 o] (ccM c) 24 3 27
  have hq1 := blk_kept hk1 (h1.blk 0 rfl)
  have HI := Lib.hid (indexFunc_M (fun x => sameE RM o (cdM c) (entM x)) ((h1.own 1 rfl).rd.kept hk1 (fun _ _ h => h)) (fun x hx => ownF_M hb2 hb1 hb3 hq1 x
    ))
  rw [idx_map_M (sameE RM o (cdM c)), hr1.1] at HI
  have HW1 := Lib.hid hW1
  have HK1 := Lib.hid hk1
  have HQ1 := Lib.hid hq1
  obtain ⟨e0, _⟩ := cells1 hb1
  clear h h1 hr1 hr2 hW1 hk1 hb1 hb2 hb3 hq1
  generalize idxI (sameE RM o (cdM c)) Q.held = k at *
  go_enter Tryz.func81, Tryz.ntmps81
  go_upto_region 1 with fail
  rw [← HW1.out]
  clear HW1
  generalize w.heap.size + 1 + 1 = bx3 at HI ⊢
  generalize w.heap.size + 1 = bx2 at HI ⊢
  generalize w.heap.size = bx1 at HI e0 ⊢
  obtain ⟨c0, c1, c2, c3, c4, c5, cf⟩ := cells6 HQ1.out
  go_wp2_with (go_at_call 86; refine HI.out.mono ?_; rintro e1 w1 ⟨rfl, hk2⟩; have HK2 := Lib.hid (HK1.out.trans hk2 (fun _ h => h.elim)); clear hk2 HI c0 c1 c2 c3 c4 c5 cf e0)
  go_ret
  exact ⟨rfl, HK2.out⟩
end Go.Proofs.YtkdinhlmghfpeaaGreatDoor

/- Whether something is free; how many wait for more. (printed by genq.py) -/
namespace Go.Proofs.YtkdinhlmghfpeaaGreatDoor
open Go.ChangeShapes Go.WideShapes Go.ChangeAt Go.RowKit
set_option maxRecDepth 100000
set_option linter.unusedSimpArgs false


set_option maxHeartbeats 2000000 in
theorem freeF_M {w : World} {be b2 q : Nat} {e : Ent Int} {hv wv : Value} (h1 : w.heap[be]? = some (.cells (cellsM e).toArray tEnM (0, 0))) (h2 : w.heap[b2]? = some (.cells #[.pointer (some ⟨q, 0, none⟩)] 24 (0, 0)))
    (hq : w.heap[q]? = some (.cells #[.func (.func 42) #[] #[], .func (.func 43) #[] #[], .func (.func 45) #[] #[], .func (.func 46) #[] #[], hv, wv] tQM (0, 0))) (he : Env w) (x : Ent Int)
    : PredF 119 #[.pointer (some ⟨be, 0, none⟩), .pointer (some ⟨b2, 0, none⟩)] w (cellsM x) (meetsE RM e.o (entM e).c (entM x)) := by
  refine ⟨enters_of Tryz.func119 (by kernel_rfl) rfl, fun W hW => ?_⟩
  obtain ⟨W1, hW1, hk1, hbx, hb1⟩ := two_blocks (kept_blk hW h1) (cellsM x).toArray tEnM
  have hk2 := hW.trans hk1 (fun _ h => h.elim)
  have HW1 := Lib.hid hW1
  have HK1 := Lib.hid hk1
  have HBX := Lib.hid hbx
  have HE := Lib.hid (he.kept hk2)
  obtain ⟨y0, y1, _⟩ := boxM hb1
  obtain ⟨d0, _⟩ := cells1 (blk_kept hk2 h2)
  obtain ⟨q0, q1, q2, q3, q4, q5, _⟩ := cells6 (blk_kept hk2 hq)
  clear h1 h2 hq hW hW1 hk1 hk2 hbx hb1 he
  show Calls Tryz.prog 119 #[.agg (cellsM x).toArray, .pointer (some ⟨be, 0, none⟩), .pointer (some ⟨b2, 0, none⟩)] W _
  by_cases ho : x.o = e.o
  · have HO := Lib.hid (show meetsE RM e.o (entM e).c (entM x) = false by unfold meetsE; simp [ho])
    go_enter Tryz.func119, Tryz.ntmps119
    go_upto_region 1 with fail
    rw [← HW1.out]
    clear HW1
    generalize W.heap.size = bx at HBX ⊢
    have x0 := (boxM HBX.out).1
    rw [ho] at x0
    clear ho
    refine wp_region_canon [(0, false, 15), (1, false, 15), (2, false, 15), (3, false, 15), (4, false, 15), (5, false, 15), (6, false, 15), (7, false, 15), (8, false, 15), (9, false, 15), (10, false, 15), (11, false, 15), (12, false, 15), (13, false, 15), (14, false, 15), (15, true, 0), (16, false, 999), (17, false, 999)] (by kernel_rfl) (by kernel_rfl) ?_
    iterate 6 (refine wpCan_read rfl rfl (fun K hK => ?_); go_simp; refine hK _ ?_; clear hK K)
    first | (refine wpCan_no rfl rfl ?_; simp only [Act.put, List.setIfInBounds_toArray, List.set_cons_succ, List.set_cons_zero, List.getElem_toArray, List.getElem_cons_succ, List.getElem_cons_zero]) | (refine wpCan_yes rfl rfl (fun K hK => ?_); go_simp; refine hK _ ?_; clear hK K)
    first | (refine wpCan_no rfl rfl ?_; simp only [Act.put, List.setIfInBounds_toArray, List.set_cons_succ, List.set_cons_zero, List.getElem_toArray, List.getElem_cons_succ, List.getElem_cons_zero]) | (refine wpCan_yes rfl rfl (fun K hK => ?_); go_simp; refine hK _ ?_; clear hK K)
    first | (refine wpCan_no rfl rfl ?_; simp only [Act.put, List.setIfInBounds_toArray, List.set_cons_succ, List.set_cons_zero, List.getElem_toArray, List.getElem_cons_succ, List.getElem_cons_zero]) | (refine wpCan_yes rfl rfl (fun K hK => ?_); go_simp; refine hK _ ?_; clear hK K)
    first | (refine wpCan_no rfl rfl ?_; simp only [Act.put, List.setIfInBounds_toArray, List.set_cons_succ, List.set_cons_zero, List.getElem_toArray, List.getElem_cons_succ, List.getElem_cons_zero]) | (refine wpCan_yes rfl rfl (fun K hK => ?_); go_simp; refine hK _ ?_; clear hK K)
    first | (refine wpCan_no rfl rfl ?_; simp only [Act.put, List.setIfInBounds_toArray, List.set_cons_succ, List.set_cons_zero, List.getElem_toArray, List.getElem_cons_succ, List.getElem_cons_zero]) | (refine wpCan_yes rfl rfl (fun K hK => ?_); go_simp; refine hK _ ?_; clear hK K)
    first | (refine wpCan_no rfl rfl ?_; simp only [Act.put, List.setIfInBounds_toArray, List.set_cons_succ, List.set_cons_zero, List.getElem_toArray, List.getElem_cons_succ, List.getElem_cons_zero]) | (refine wpCan_yes rfl rfl (fun K hK => ?_); go_simp; refine hK _ ?_; clear hK K)
    first | (refine wpCan_no rfl rfl ?_; simp only [Act.put, List.setIfInBounds_toArray, List.set_cons_succ, List.set_cons_zero, List.getElem_toArray, List.getElem_cons_succ, List.getElem_cons_zero]) | (refine wpCan_yes rfl rfl (fun K hK => ?_); go_simp; refine hK _ ?_; clear hK K)
    first | (refine wpCan_no rfl rfl ?_; simp only [Act.put, List.setIfInBounds_toArray, List.set_cons_succ, List.set_cons_zero, List.getElem_toArray, List.getElem_cons_succ, List.getElem_cons_zero]) | (refine wpCan_yes rfl rfl (fun K hK => ?_); go_simp; refine hK _ ?_; clear hK K)
    first | (refine wpCan_no rfl rfl ?_; simp only [Act.put, List.setIfInBounds_toArray, List.set_cons_succ, List.set_cons_zero, List.getElem_toArray, List.getElem_cons_succ, List.getElem_cons_zero]) | (refine wpCan_yes rfl rfl (fun K hK => ?_); go_simp; refine hK _ ?_; clear hK K)
    refine wpCan_eff rfl ?_
    refine wpList_not rfl ?_
    simp only [Act.put, List.setIfInBounds_toArray, List.set_cons_succ, List.set_cons_zero]
    refine wpList_nil ?_
    refine And.intro ?_ ?_
    · go_simp
    iterate 2 (refine wpCan_read rfl rfl (fun K hK => ?_); go_simp; refine hK _ ?_; clear hK K)
    refine wpCan_nil ?_
    go_wp2_with fail
    go_ret
    exact ⟨by rw [HO.out]; rfl, HK1.out.drew⟩
  · have HO := Lib.hid (show meetsE RM e.o (entM e).c (entM x) = RM.conf (entM x).c (entM e).c by unfold meetsE; simp [ho])
    have hne : (x.o == e.o) = false := by simpa using ho
    have hne2 : (x.o != e.o) = true := by simpa using ho
    rw [HO.out]
    go_enter Tryz.func119, Tryz.ntmps119
    go_upto_region 1 with fail
    rw [← HW1.out]
    clear HW1 HO
    generalize W.heap.size = bx at HBX ⊢
    obtain ⟨x0, x1, _⟩ := boxM HBX.out
    clear ho
    refine wp_region_canon [(0, false, 15), (1, false, 15), (2, false, 15), (3, false, 15), (4, false, 15), (5, false, 15), (6, false, 15), (7, false, 15), (8, false, 15), (9, false, 15), (10, false, 15), (11, false, 15), (12, false, 15), (13, false, 15), (14, false, 15), (15, true, 0), (16, false, 999), (17, false, 999)] (by kernel_rfl) (by kernel_rfl) ?_
    iterate 6 (refine wpCan_read rfl rfl (fun K hK => ?_); go_simp; refine hK _ ?_; clear hK K)
    first | (refine wpCan_no rfl rfl ?_; simp only [Act.put, List.setIfInBounds_toArray, List.set_cons_succ, List.set_cons_zero, List.getElem_toArray, List.getElem_cons_succ, List.getElem_cons_zero]) | (refine wpCan_yes rfl rfl (fun K hK => ?_); go_simp; refine hK _ ?_; clear hK K)
    first | (refine wpCan_no rfl rfl ?_; simp only [Act.put, List.setIfInBounds_toArray, List.set_cons_succ, List.set_cons_zero, List.getElem_toArray, List.getElem_cons_succ, List.getElem_cons_zero]) | (refine wpCan_yes rfl rfl (fun K hK => ?_); go_simp; refine hK _ ?_; clear hK K)
    first | (refine wpCan_no rfl rfl ?_; simp only [Act.put, List.setIfInBounds_toArray, List.set_cons_succ, List.set_cons_zero, List.getElem_toArray, List.getElem_cons_succ, List.getElem_cons_zero]) | (refine wpCan_yes rfl rfl (fun K hK => ?_); go_simp; refine hK _ ?_; clear hK K)
    first | (refine wpCan_no rfl rfl ?_; simp only [Act.put, List.setIfInBounds_toArray, List.set_cons_succ, List.set_cons_zero, List.getElem_toArray, List.getElem_cons_succ, List.getElem_cons_zero]) | (refine wpCan_yes rfl rfl (fun K hK => ?_); go_simp; refine hK _ ?_; clear hK K)
    first | (refine wpCan_no rfl rfl ?_; simp only [Act.put, List.setIfInBounds_toArray, List.set_cons_succ, List.set_cons_zero, List.getElem_toArray, List.getElem_cons_succ, List.getElem_cons_zero]) | (refine wpCan_yes rfl rfl (fun K hK => ?_); go_simp; refine hK _ ?_; clear hK K)
    first | (refine wpCan_no rfl rfl ?_; simp only [Act.put, List.setIfInBounds_toArray, List.set_cons_succ, List.set_cons_zero, List.getElem_toArray, List.getElem_cons_succ, List.getElem_cons_zero]) | (refine wpCan_yes rfl rfl (fun K hK => ?_); go_simp; refine hK _ ?_; clear hK K)
    first | (refine wpCan_no rfl rfl ?_; simp only [Act.put, List.setIfInBounds_toArray, List.set_cons_succ, List.set_cons_zero, List.getElem_toArray, List.getElem_cons_succ, List.getElem_cons_zero]) | (refine wpCan_yes rfl rfl (fun K hK => ?_); go_simp; refine hK _ ?_; clear hK K)
    first | (refine wpCan_no rfl rfl ?_; simp only [Act.put, List.setIfInBounds_toArray, List.set_cons_succ, List.set_cons_zero, List.getElem_toArray, List.getElem_cons_succ, List.getElem_cons_zero]) | (refine wpCan_yes rfl rfl (fun K hK => ?_); go_simp; refine hK _ ?_; clear hK K)
    first | (refine wpCan_no rfl rfl ?_; simp only [Act.put, List.setIfInBounds_toArray, List.set_cons_succ, List.set_cons_zero, List.getElem_toArray, List.getElem_cons_succ, List.getElem_cons_zero]) | (refine wpCan_yes rfl rfl (fun K hK => ?_); go_simp; refine hK _ ?_; clear hK K)
    refine wpCan_eff rfl ?_
    refine wpList_do rfl (fun K hK => ?_)
    go_simp
    refine (conf_M _ _ HE.out.drew).mono ?_
    rintro e2 w2 ⟨rfl, hk⟩
    have HK2 := Lib.hid (HK1.out.drew.trans hk (fun _ h => h.elim))
    clear hk
    refine hK _ _ ?_
    clear hK K
    refine wpList_nil ?_
    refine And.intro ?_ ?_
    · go_simp
    iterate 2 (refine wpCan_read rfl rfl (fun K hK => ?_); go_simp; refine hK _ ?_; clear hK K)
    refine wpCan_nil ?_
    go_wp2_with fail
    go_ret
    exact ⟨rfl, HK2.out⟩
set_option maxHeartbeats 2000000 in
theorem free_M {B w : World} {D D' : PH} {l : List HP} {q : Nat} {Q : Qm Int} {av : Value} {zs : List (Ent Int)} (e : Ent Int) (he : Env w)
    (hrd : Rd w 3 av zs.length (zs.flatMap cellsM)) (h : Sat B D w (queM D' q Q :: l)) :
    Calls Tryz.prog 83 #[.pointer (some ⟨q, 0, none⟩), .agg (cellsM e).toArray, av] w fun r w' => r = .returned (.bool (freeE RM Q e.o (entM e).c (zs.map entM))) ∧ Kept (fun _ => False) w w' := by
  obtain ⟨hv, wv, hs, ws, hr1, hr2, h1⟩ := queOpen_M h
  obtain ⟨W1, hW1, hk1, hb1, hb2⟩ := alloc2 w #[.pointer (some ⟨q, 0, none⟩)] (cellsM e).toArray 24 tEnM
  have hq1 := blk_kept hk1 (h1.blk 0 rfl)
  have HI := Lib.hid (containsFunc_M (fun x => meetsE RM e.o (entM e).c (entM x)) ((h1.own 1 rfl).rd.kept hk1 (fun _ _ h => h)) (fun x hx => freeF_M hb2 hb1 hq1 (he.kept hk1) x
    ))
  have HJ := Lib.hid (show ∀ W2, Kept (fun _ => False) W1 W2 → _ from fun W2 hk2 => containsFunc_M (w := W2) (v := av) (fun x => meetsE RM e.o (entM e).c (entM x)) ((hrd.kept hk1 (fun _ _ h => h)).kept hk2 (fun _ _ h => h)) (fun x hx => (freeF_M hb2 hb1 hq1 (he.kept hk1) x
    ).kept hk2))
  rw [any_map_M (meetsE RM e.o (entM e).c), hr1.1] at HI
  have HA := Lib.hid (any_map_M (meetsE RM e.o (entM e).c) zs)
  rw [HA.out] at HJ
  have HR := Lib.hid (show freeE RM Q e.o (entM e).c (zs.map entM) = (!(Q.held.any (meetsE RM e.o (entM e).c)) && !((zs.map entM).any (meetsE RM e.o (entM e).c))) from rfl)
  rw [HR.out]
  have HW1 := Lib.hid hW1
  have HK1 := Lib.hid hk1
  have HQ1 := Lib.hid hq1
  obtain ⟨d0, _⟩ := cells1 hb1
  obtain ⟨_, _, aa, ac, rfl, _⟩ := id hrd
  clear h h1 hr1 hr2 hW1 hk1 hb1 hb2 hq1 HA HR hrd he
  generalize Q.held.any (meetsE RM e.o (entM e).c) = r1 at *
  generalize (zs.map entM).any (meetsE RM e.o (entM e).c) = r2 at *
  cases r1
  all_goals
    go_enter Tryz.func83, Tryz.ntmps83
    go_upto_region 2 with fail
    rw [← HW1.out]
    clear HW1
    generalize w.heap.size + 1 = bx2 at HI HJ ⊢
    generalize w.heap.size = bx1 at HI HJ d0 ⊢
    obtain ⟨c0, c1, c2, c3, c4, c5, cf⟩ := cells6 HQ1.out
    go_wp2_with (go_at_call 120; first | (refine HI.out.mono ?_; rintro e1 w1 ⟨rfl, hk2⟩; have HK2 := Lib.hid hk2; clear hk2 HI c0 c1 c2 c3 c4 c5 cf d0) | (refine (HJ.out _ HK2.out).mono ?_; rintro e3 w3 ⟨rfl, hk3⟩; replace HK2 := Lib.hid (HK2.out.trans hk3 (fun _ h => h.elim)); clear hk3 HJ))
    go_ret
    exact ⟨rfl, HK1.out.trans HK2.out (fun _ h => h.elim)⟩
set_option maxHeartbeats 2000000 in
theorem mores_M {B w : World} {D D' : PH} {l : List HP} {q : Nat} {Q : Qm Int} (h : Sat B D w (queM D' q Q :: l)) :
    Calls Tryz.prog 82 #[.pointer (some ⟨q, 0, none⟩)] w fun e w' => e = .returned (.int .i64 (moresN Q.waits : Nat)) ∧ w = w' := by
  obtain ⟨hv, wv, hs, ws, hr1, hr2, h1⟩ := queOpen_M h
  obtain ⟨_, hml, wa, wc, rfl, hnc, hcm, _⟩ := id (h1.own 2 rfl).rd
  unfold maxLen at hml hcm
  have HRD := Lib.hid (h1.own 2 rfl).rd
  obtain ⟨c0, c1, c2, c3, c4, c5, cf⟩ := cells6 (h1.blk 0 rfl)
  have HW := Lib.hid hr2.1
  clear h h1 hr1 hr2
  have hlm : moresN Q.waits ≤ ws.length := by rw [← List.length_map (f := entM), HW.out]; exact moresN_le _
  obtain ⟨N, hN⟩ : ∃ N, ws.length = N := ⟨_, rfl⟩
  have HN := Lib.hid hN
  rw [hN] at HRD hml hnc hlm c5
  clear hN
  go_enter Tryz.func82, Tryz.ntmps82
  go_wp2_with fail
  go_loop [3] (fun i => ∃ k : Nat, i = .int .i64 k ∧ k ≤ moresN Q.waits) (fun i => N - (intOf i).toNat)
  case atStart => exact ⟨0, rfl, by omega⟩
  case round =>
    obtain ⟨k, rfl, hk⟩ := hrel
    by_cases hlt : k < N
    · have hi : (k : Int) < (N : Int) := by omega
      obtain ⟨x, hx⟩ : ∃ x, ws[k]? = some x := ⟨ws[k]'(by rw [HN.out]; exact hlt), List.getElem?_eq_getElem _⟩
      obtain ⟨g, o, rfl, hrng⟩ := elem_range lenM HRD.out hx HN.out
      have hx2 : Q.waits[k]? = some (entM x) := by rw [← HW.out, List.getElem?_map, hx]; rfl
      have x2 := moreM hrng
      by_cases hkm : k < moresN Q.waits
      · have hm := Lib.hid (show x.more = true from more_lt hkm hx2)
        rw [hm.out] at x2
        clear hx hrng hx2 hm
        go_wp2_with fail
        go_round
        case rel => exact ⟨k + 1, by go_num, by omega⟩
        case measure => simp [intOf]; omega
      · have hke : k = moresN Q.waits := by omega
        have hm := Lib.hid (show x.more = false from more_ge hke hx2)
        have HKE := Lib.hid hke
        rw [hm.out] at x2
        clear hx hrng hx2 hm hke
        go_wp2_with fail
        go_ret
        exact ⟨by rw [← HKE.out]; rfl, rfl⟩
    · have hi : ¬ ((k : Int) < (N : Int)) := by omega
      have HKE := Lib.hid (show k = moresN Q.waits by omega)
      go_wp2_with fail
      go_ret
      exact ⟨by rw [← HKE.out]; rfl, rfl⟩
end Go.Proofs.YtkdinhlmghfpeaaGreatDoor
