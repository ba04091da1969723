/- Joined texts: The document's queue: a row of entries that reads; does one meet another's (ratlineref10.meets). The document's queue: whose own is the same (ratlineref10.Queue.own). -/
import Derived.Test.YtgljdkjepdknnaaGreatDoorMR23
import Derived.Test.YtgljdkjepdknnaaGreatDoorMR6
/- The document's queue: a row of entries that reads; does one meet another's (ratlineref10.meets). -/
namespace Go.Proofs.YtgljdkjepdknnaaGreatDoor
open Go.ChangeShapes Go.WideShapes Go.ChangeAt Go.RowKit
set_option maxRecDepth 100000
set_option linter.unusedSimpArgs false

/-- a row of entries that reads -/
def EntsRd (w : World) (v : Value) (hs : List EntE) : Prop := Rd w 18 v hs.length (hs.flatMap cellsC) ∧ (∀ e ∈ hs, RdCl w e.x) ∧ ∀ e ∈ hs, ClmFit e.x.c
theorem EntsRd.kept {w w' : World} {v : Value} {hs : List EntE} (h : EntsRd w v hs) (k : Kept (fun _ => False) w w') : EntsRd w' v hs := ⟨h.1.kept k (fun _ _ h => h), fun e he => (h.2.1 e he).kept k, h.2.2⟩
theorem EntsRd.shape {w : World} {v : Value} {hs : List EntE} (h : EntsRd w v hs) : ∃ ao cap, v = .slice ao hs.length cap ∧ hs.length ≤ cap ∧ hs.length ≤ 9223372036854775807 ∧ cap ≤ 9223372036854775807 := by
 obtain ⟨_, hml, ao, cap, hv, hnc, hcm, _⟩ := h.1
 unfold maxLen at hml hcm
 exact ⟨ao, cap, hv, hnc, by omega, by omega⟩
theorem entAt {w : World} {ao : Option Addr} {N cap j : Nat} {hs : List EntE} {e : EntE} (h : EntsRd w (.slice ao N cap) hs) (hl : hs.length = N) (he : hs[j]? = some e) :
  ∃ g o, ao = some ⟨g, o, none⟩ ∧ w.rangeAt g (o + j * 18) (cellsC e) ∧ w.rangeAt g (o + j * 18 + 1) e.x.cells ∧ w.cell? ⟨g, o + j * 18, none⟩ = some (.int .i64 e.o) ∧ RdCl w e.x ∧ ClmFit e.x.c := by
 obtain ⟨g, o, hg, hr⟩ := elem_range lenC (by have := h.1; rw [hl] at this; exact this) he hl
 refine ⟨g, o, hg, hr, fun i u hu => ?_, hr 0 _ rfl, h.2.1 e (List.mem_of_getElem? he), h.2.2 e (List.mem_of_getElem? he)⟩
 have hi : i < 16 := by have := (List.getElem?_eq_some_iff.1 hu).1; rwa [ClmE.len] at this
 rw [show o + j * 18 + 1 + i = o + j * 18 + (i + 1) by omega]
 refine hr (i + 1) u ?_
 show (e.x.cells ++ [.bool e.more])[i]? = _
 rw [List.getElem?_append_left (by rw [ClmE.len]; exact hi)]
 exact hu
set_option maxHeartbeats 8000000 in
theorem rqMeets_ok {w : World} {v : Value} {hs : List EntE} {x : ClmE} (o : Int) (h : EntsRd w v hs) (hx : RdCl w x) (hf : ClmFit x.c) :
  Calls Tryz.prog 148 #[v, .int .i64 o, .agg x.cells.toArray] w fun r w' => r = .returned (.bool (hs.any (fun e => meetsE RC o x.c (entC e)))) ∧ Kept (fun _ => False) w w' := by
 obtain ⟨W1, hW1, hk1, hb1⟩ : ∃ W, W = w.alloc (.cells x.cells.toArray tCl) ∧ Kept (fun _ => False) w W ∧ W.heap[w.heap.size]? = some (.cells x.cells.toArray tCl (0, 0)) := ⟨_, rfl, (Kept.refl _ _).alloc _, heap_alloc_self _ _⟩
 obtain ⟨a, c, rfl, n1, m1, _⟩ := h.shape
 have HW1 := Lib.hid hW1
 have HK1 := Lib.hid hk1
 have HB1 := Lib.hid hb1
 have HH := Lib.hid (h.kept hk1)
 have HX := Lib.hid (hx.kept hk1)
 have HFX := Lib.hid hf
 obtain ⟨N, hN⟩ : ∃ N, hs.length = N := ⟨_, rfl⟩
 have HN := Lib.hid hN
 obtain ⟨p, hp⟩ : ∃ p : EntE → Bool, (fun e => meetsE RC o x.c (entC e)) = p := ⟨_, rfl⟩
 have HP := Lib.hid (show ∀ e : EntE, p e = (decide (e.o ≠ o) && RC.conf e.x.c x.c) from fun e => by rw [← hp]; rfl)
 rw [hp]
 rw [hN] at HH n1 m1 ⊢
 clear hW1 hk1 hb1 h hx hf hN hp
 go_enter Tryz.func148, Tryz.ntmps148
 go_upto_region 1 with fail
 rw [← HW1.out]
 clear HW1
 generalize w.heap.size = b1 at *
 go_wp2_with fail
 go_loopw [7] (fun i wr => ∃ j : Nat, i = .int .i64 j ∧ j ≤ N ∧ (hs.take j).any p = false ∧ Kept (fun _ => False) W1 wr) (fun i _ => N - (intOf i).toNat)
 case atStart => exact ⟨0, rfl, by omega, rfl, Kept.refl _ _⟩
 case round =>
  obtain ⟨j, rfl, hj, hn, hk⟩ := hrel
  have HNO := Lib.hid hn
  have HK := Lib.hid hk
  clear hn hk
  by_cases hlt : j < N
  ·have hji : (j : Int) < (N : Int) := by omega
   obtain ⟨e, he⟩ : ∃ e, hs[j]? = some e := ⟨hs[j]'(by rw [HN.out]; exact hlt), List.getElem?_eq_getElem _⟩
   obtain ⟨g, og, hg, _, hr2, y0, hre, hfe⟩ := entAt (HH.out.kept HK.out) HN.out he
   have HEJ := Lib.hid he
   subst hg
   have HL1 := Lib.hid (loadCl (w := wr.drew) hr2)
   have HL2 := Lib.hid (loadCl (w := wr.drew) (blk_range (kept_blk HK.out.drew HB1.out)))
   have HC := Lib.hid (rConf_ok (w := wr.drew) (hre.drew) (HX.out.kept HK.out.drew) hfe HFX.out)
   obtain ⟨b, hb⟩ : ∃ b, RC.conf e.x.c x.c = b := ⟨_, rfl⟩
   rw [hb] at HC
   have HB := Lib.hid hb
   clear he hr2 hre hfe hb y0
   go_upto_region 4 with fail
   refine wp_region_canon [(0, false, 6), (1, false, 6), (2, false, 6), (3, false, 6), (4, false, 6), (5, false, 6), (6, true, 0), (7, false, 999)] (by kernel_rfl) (by kernel_rfl) ?_
   iterate 6 (refine wpCan_read rfl rfl (fun K hK => ?_); (first | ((refine still_ld _ _ rfl _ _ rfl _ HL1.out ?_); go_simp) | ((refine still_ld _ _ rfl _ _ rfl _ HL2.out ?_); go_simp) | go_simp); refine hK _ ?_; clear hK K)
   refine wpCan_eff rfl ?_
   refine wpList_do rfl (fun K hK => ?_)
   go_simp
   refine HC.out.mono ?_
   rintro e4 w4 ⟨rfl, hk4⟩
   have HK4 := Lib.hid (HK.out.drew.trans hk4 (fun _ h => h.elim))
   clear hk4 HC HL1 HL2
   refine hK _ _ ?_
   clear hK K
   refine wpList_nil ?_
   refine And.intro ?_ ?_
   ·go_simp
   iterate 1 (refine wpCan_read rfl rfl (fun K hK => ?_); (first | ((refine still_ld _ _ rfl _ _ rfl _ HL1.out ?_); go_simp) | ((refine still_ld _ _ rfl _ _ rfl _ HL2.out ?_); go_simp) | go_simp); refine hK _ ?_; clear hK K)
   refine wpCan_nil ?_
   obtain ⟨g2, og2, hg2, _, _, y0, _, _⟩ := entAt (HH.out.kept HK4.out) HN.out HEJ.out
   cases hg2
   by_cases ho : e.o = o
   ·have hne : (e.o != o) = false := by simpa using ho
    have HQ := Lib.hid (show p e = false by rw [HP.out]; simp [ho])
    clear ho
    go_wp2_with fail
    go_roundw
    case rel => exact ⟨j + 1, by go_num, by omega, by rw [any_snoc _ HEJ.out, HNO.out, HQ.out]; rfl, HK4.out⟩
    case measure => simp [intOf]; omega
   ·have hne : (e.o != o) = true := by simpa using ho
    have HQ := Lib.hid (show p e = b by rw [HP.out, HB.out, decide_eq_true ho]; rfl)
    clear ho
    cases b
    ·go_wp2_with fail
     go_roundw
     case rel => exact ⟨j + 1, by go_num, by omega, by rw [any_snoc _ HEJ.out, HNO.out, HQ.out]; rfl, HK4.out⟩
     case measure => simp [intOf]; omega
    ·go_wp2_with fail
     go_ret
     exact ⟨by rw [any_of_at _ HEJ.out HQ.out]; rfl, HK1.out.trans HK4.out (fun _ h => h.elim)⟩
  ·have hji : ¬ ((j : Int) < (N : Int)) := by omega
   obtain rfl : j = N := by omega
   have HF := Lib.hid (show hs.any p = false by have := HNO.out; rw [List.take_of_length_le (Nat.le_of_eq HN.out)] at this; exact this)
   go_wp2_with fail
   go_ret
   exact ⟨by rw [HF.out]; rfl, HK1.out.trans HK.out (fun _ h => h.elim)⟩
end Go.Proofs.YtgljdkjepdknnaaGreatDoor

/- The document's queue: whose own is the same (ratlineref10.Queue.own). -/
namespace Go.Proofs.YtgljdkjepdknnaaGreatDoor
open Go.ChangeShapes Go.WideShapes Go.ChangeAt Go.RowKit
set_option maxRecDepth 100000
set_option linter.unusedSimpArgs false

theorem none_before {α : Type} {p : α → Bool} {l : List α} {j : Nat} (h : (l.take j).any p = false) : ∀ y ∈ l.take j, p y = false := by
 intro y hy
 rw [Bool.eq_false_iff]
 intro hp
 rw [List.any_eq_true.2 ⟨y, hy, hp⟩] at h
 cases h
set_option maxHeartbeats 8000000 in
theorem rqOwn_ok {w : World} {hv wv : Value} {hs : List EntE} {x : ClmE} (o : Int) (h : EntsRd w hv hs) (hx : RdCl w x) :
  Calls Tryz.prog 145 #[.agg #[hv, wv], .int .i64 o, .agg x.cells.toArray] w fun r w' => r = .returned (.int .i64 (idxI (fun e => sameE RC o x.c (entC e)) hs)) ∧ Kept (fun _ => False) w w' := by
 obtain ⟨W1, hW1, hk1, hb1, hb2⟩ := alloc2p w #[hv, wv] x.cells.toArray 58 tCl
 obtain ⟨a, c, rfl, n1, m1, _⟩ := h.shape
 have HW1 := Lib.hid hW1
 have HK1 := Lib.hid hk1
 have HB1 := Lib.hid hb1
 have HB2 := Lib.hid hb2
 have HH := Lib.hid (h.kept hk1)
 have HX := Lib.hid (hx.kept hk1)
 obtain ⟨N, hN⟩ : ∃ N, hs.length = N := ⟨_, rfl⟩
 have HN := Lib.hid hN
 obtain ⟨p, hp⟩ : ∃ p : EntE → Bool, (fun e => sameE RC o x.c (entC e)) = p := ⟨_, rfl⟩
 have HP := Lib.hid (show ∀ e : EntE, p e = (decide (e.o = o) && RC.same e.x.c x.c) from fun e => by rw [← hp]; rfl)
 rw [hp]
 rw [hN] at HH n1 m1 HB1 HW1 ⊢
 clear hW1 hk1 hb1 hb2 h hx hN hp
 go_enter Tryz.func145, Tryz.ntmps145
 go_upto_region 1 with fail
 rw [← HW1.out]
 clear HW1
 generalize w.heap.size + 1 = b2 at *
 generalize w.heap.size = b1 at *
 go_wp2_with fail
 go_loopw [7] (fun i wr => ∃ j : Nat, i = .int .i64 j ∧ j ≤ N ∧ (hs.take j).any p = false ∧ Kept (fun _ => False) W1 wr) (fun i _ => N - (intOf i).toNat)
 case atStart => exact ⟨0, rfl, by omega, rfl, Kept.refl _ _⟩
 case round =>
  obtain ⟨j, rfl, hj, hn, hk⟩ := hrel
  have HNO := Lib.hid hn
  have HK := Lib.hid hk
  clear hn hk
  obtain ⟨q0, _, _⟩ := cells2 (kept_blk HK.out HB1.out)
  by_cases hlt : j < N
  ·have hji : (j : Int) < (N : Int) := by omega
   obtain ⟨e, he⟩ : ∃ e, hs[j]? = some e := ⟨hs[j]'(by rw [HN.out]; exact hlt), List.getElem?_eq_getElem _⟩
   obtain ⟨g, og, hg, _, hr2, y0, hre, hfe⟩ := entAt (HH.out.kept HK.out) HN.out he
   have HEJ := Lib.hid he
   subst hg
   have HL1 := Lib.hid (loadCl (w := wr.drew) hr2)
   have HL2 := Lib.hid (loadCl (w := wr.drew) (blk_range (kept_blk HK.out.drew HB2.out)))
   have HC := Lib.hid (rcSame_ok (w := wr.drew) (hre.drew) (HX.out.kept HK.out.drew))
   obtain ⟨b, hb⟩ : ∃ b, RC.same e.x.c x.c = b := ⟨_, rfl⟩
   rw [hb] at HC
   have HB := Lib.hid hb
   clear he hr2 hre hfe hb y0
   go_upto_region 4 with fail
   refine wp_region_canon [(0, false, 7), (1, false, 7), (2, false, 7), (3, false, 7), (4, false, 7), (5, false, 7), (6, false, 7), (7, true, 0), (8, false, 999)] (by kernel_rfl) (by kernel_rfl) ?_
   iterate 7 (refine wpCan_read rfl rfl (fun K hK => ?_); (first | ((refine still_ld _ _ rfl _ _ rfl _ HL1.out ?_); go_simp) | ((refine still_ld _ _ rfl _ _ rfl _ HL2.out ?_); go_simp) | go_simp); refine hK _ ?_; clear hK K)
   refine wpCan_eff rfl ?_
   refine wpList_do rfl (fun K hK => ?_)
   go_simp
   refine HC.out.mono ?_
   rintro e4 w4 ⟨rfl, hk4⟩
   have HK4 := Lib.hid (HK.out.drew.trans hk4 (fun _ h => h.elim))
   clear hk4 HC HL1 HL2 q0
   refine hK _ _ ?_
   clear hK K
   refine wpList_nil ?_
   refine And.intro ?_ ?_
   ·go_simp
   iterate 1 (refine wpCan_read rfl rfl (fun K hK => ?_); (first | ((refine still_ld _ _ rfl _ _ rfl _ HL1.out ?_); go_simp) | ((refine still_ld _ _ rfl _ _ rfl _ HL2.out ?_); go_simp) | go_simp); refine hK _ ?_; clear hK K)
   refine wpCan_nil ?_
   obtain ⟨g2, og2, hg2, _, _, y0, _, _⟩ := entAt (HH.out.kept HK4.out) HN.out HEJ.out
   cases hg2
   obtain ⟨q0, _, _⟩ := cells2 (kept_blk HK4.out HB1.out)
   by_cases ho : e.o = o
   ·have hne : (e.o == o) = true := by simpa using ho
    have HQ := Lib.hid (show p e = b by rw [HP.out, HB.out, decide_eq_true ho]; rfl)
    clear ho
    cases b
    ·go_wp2_with fail
     go_roundw
     case rel => exact ⟨j + 1, by go_num, by omega, by rw [any_snoc _ HEJ.out, HNO.out, HQ.out]; rfl, HK4.out⟩
     case measure => simp [intOf]; omega
    ·go_wp2_with fail
     go_ret
     exact ⟨by rw [idxI_at (none_before HNO.out) HEJ.out HQ.out]; rfl, HK1.out.trans HK4.out (fun _ h => h.elim)⟩
   ·have hne : (e.o == o) = false := by simpa using ho
    have HQ := Lib.hid (show p e = false by rw [HP.out]; simp [ho])
    clear ho
    go_wp2_with fail
    go_roundw
    case rel => exact ⟨j + 1, by go_num, by omega, by rw [any_snoc _ HEJ.out, HNO.out, HQ.out]; rfl, HK4.out⟩
    case measure => simp [intOf]; omega
  ·have hji : ¬ ((j : Int) < (N : Int)) := by omega
   obtain rfl : j = N := by omega
   have HF := Lib.hid (show idxI p hs = -1 from idxI_none (by have := none_before HNO.out; rw [List.take_of_length_le (Nat.le_of_eq HN.out)] at this; exact this))
   go_wp2_with fail
   go_ret
   exact ⟨by rw [HF.out]; rfl, HK1.out.trans HK.out (fun _ h => h.elim)⟩
end Go.Proofs.YtgljdkjepdknnaaGreatDoor
