/- The document's queue: whose own is the same (ratlineref10.Queue.own). -/
import Derived.Test.YtgljdkjepdknnaaGreatDoorJ28
namespace Go.Proofs.YtgljdkjepdknnaaGreatDoor
open Go.ChangeShapes Go.WideShapes Go.ChangeAt Go.RowKit
set_option maxRecDepth 100000
set_option linter.unusedSimpArgs false

theorem none_before {α : Type} {p : α → Bool} {l : List α} {j : Nat} (h : (l.take j).any p = false) : ∀ y ∈ l.take j, p y = false := by
  intro y hy
  rw [Bool.eq_false_iff]
  intro hp
  rw [List.any_eq_true.2 ⟨y, hy, hp⟩] at h
  cases h
set_option maxHeartbeats 8000000 in
theorem rqOwn_ok {w : World} {hv wv : Value} {hs : List EntE} {x : ClmE} (o : Int) (h : EntsRd w hv hs) (hx : RdCl w x) :
    Calls Tryz.prog 145 #[.agg #[hv, wv], .int .i64 o, .agg x.cells.toArray] w fun r w' => r = .returned (.int .i64 (idxI (fun e => sameE RC o x.c (entC e)) hs)) ∧ Kept (fun _ => False) w w' := by
  obtain ⟨W1, hW1, hk1, hb1, hb2⟩ := alloc2p w #[hv, wv] x.cells.toArray 58 tCl
  obtain ⟨a, c, rfl, n1, m1, _⟩ := h.shape
  have HW1 := Lib.hid hW1
  have HK1 := Lib.hid hk1
  have HB1 := Lib.hid hb1
  have HB2 := Lib.hid hb2
  have HH := Lib.hid (h.kept hk1)
  have HX := Lib.hid (hx.kept hk1)
  obtain ⟨N, hN⟩ : ∃ N, hs.length = N := ⟨_, rfl⟩
  have HN := Lib.hid hN
  obtain ⟨p, hp⟩ : ∃ p : EntE → Bool, (fun e => sameE RC o x.c (entC e)) = p := ⟨_, rfl⟩
  have HP := Lib.hid (show ∀ e : EntE, p e = (decide (e.o = o) && RC.same e.x.c x.c) from fun e => by rw [← hp]; rfl)
  rw [hp]
  rw [hN] at HH n1 m1 HB1 HW1 ⊢
  clear hW1 hk1 hb1 hb2 h hx hN hp
  go_enter Tryz.func145, Tryz.ntmps145
  go_upto_region 1 with fail
  rw [← HW1.out]
  clear HW1
  generalize w.heap.size + 1 = b2 at *
  generalize w.heap.size = b1 at *
  go_wp2_with fail
  go_loopw [7] (fun i wr => ∃ j : Nat, i = .int .i64 j ∧ j ≤ N ∧ (hs.take j).any p = false ∧ Kept (fun _ => False) W1 wr) (fun i _ => N - (intOf i).toNat)
  case atStart => exact ⟨0, rfl, by omega, rfl, Kept.refl _ _⟩
  case round =>
    obtain ⟨j, rfl, hj, hn, hk⟩ := hrel
    have HNO := Lib.hid hn
    have HK := Lib.hid hk
    clear hn hk
    obtain ⟨q0, _, _⟩ := cells2 (kept_blk HK.out HB1.out)
    by_cases hlt : j < N
    · have hji : (j : Int) < (N : Int) := by omega
      obtain ⟨e, he⟩ : ∃ e, hs[j]? = some e := ⟨hs[j]'(by rw [HN.out]; exact hlt), List.getElem?_eq_getElem _⟩
      obtain ⟨g, og, hg, _, hr2, y0, hre, hfe⟩ := entAt (HH.out.kept HK.out) HN.out he
      have HEJ := Lib.hid he
      subst hg
      have HL1 := Lib.hid (loadCl (w := wr.drew) hr2)
      have HL2 := Lib.hid (loadCl (w := wr.drew) (blk_range (kept_blk HK.out.drew HB2.out)))
      have HC := Lib.hid (rcSame_ok (w := wr.drew) (hre.drew) (HX.out.kept HK.out.drew))
      obtain ⟨b, hb⟩ : ∃ b, RC.same e.x.c x.c = b := ⟨_, rfl⟩
      rw [hb] at HC
      have HB := Lib.hid hb
      clear he hr2 hre hfe hb y0
      go_upto_region 4 with fail
      refine wp_region_canon [(0, false, 7), (1, false, 7), (2, false, 7), (3, false, 7), (4, false, 7), (5, false, 7), (6, false, 7), (7, true, 0), (8, false, 999)] (by kernel_rfl) (by kernel_rfl) ?_
      iterate 7 (refine wpCan_read rfl rfl (fun K hK => ?_); (first | ((refine still_ld _ _ rfl _ _ rfl _ HL1.out ?_); go_simp) | ((refine still_ld _ _ rfl _ _ rfl _ HL2.out ?_); go_simp) | go_simp); refine hK _ ?_; clear hK K)
      refine wpCan_eff rfl ?_
      refine wpList_do rfl (fun K hK => ?_)
      go_simp
      refine HC.out.mono ?_
      rintro e4 w4 ⟨rfl, hk4⟩
      have HK4 := Lib.hid (HK.out.drew.trans hk4 (fun _ h => h.elim))
      clear hk4 HC HL1 HL2 q0
      refine hK _ _ ?_
      clear hK K
      refine wpList_nil ?_
      refine And.intro ?_ ?_
      · go_simp
      iterate 1 (refine wpCan_read rfl rfl (fun K hK => ?_); (first | ((refine still_ld _ _ rfl _ _ rfl _ HL1.out ?_); go_simp) | ((refine still_ld _ _ rfl _ _ rfl _ HL2.out ?_); go_simp) | go_simp); refine hK _ ?_; clear hK K)
      refine wpCan_nil ?_
      obtain ⟨g2, og2, hg2, _, _, y0, _, _⟩ := entAt (HH.out.kept HK4.out) HN.out HEJ.out
      cases hg2
      obtain ⟨q0, _, _⟩ := cells2 (kept_blk HK4.out HB1.out)
      by_cases ho : e.o = o
      · have hne : (e.o == o) = true := by simpa using ho
        have HQ := Lib.hid (show p e = b by rw [HP.out, HB.out, decide_eq_true ho]; rfl)
        clear ho
        cases b
        · go_wp2_with fail
          go_roundw
          case rel => exact ⟨j + 1, by go_num, by omega, by rw [any_snoc _ HEJ.out, HNO.out, HQ.out]; rfl, HK4.out⟩
          case measure => simp [intOf]; omega
        · go_wp2_with fail
          go_ret
          exact ⟨by rw [idxI_at (none_before HNO.out) HEJ.out HQ.out]; rfl, HK1.out.trans HK4.out (fun _ h => h.elim)⟩
      · have hne : (e.o == o) = false := by simpa using ho
        have HQ := Lib.hid (show p e = false by rw [HP.out]; simp [ho])
        clear ho
        go_wp2_with fail
        go_roundw
        case rel => exact ⟨j + 1, by go_num, by omega, by rw [any_snoc _ HEJ.out, HNO.out, HQ.out]; rfl, HK4.out⟩
        case measure => simp [intOf]; omega
    · have hji : ¬ ((j : Int) < (N : Int)) := by omega
      obtain rfl : j = N := by omega
      have HF := Lib.hid (show idxI p hs = -1 from idxI_none (by have := none_before HNO.out; rw [List.take_of_length_le (Nat.le_of_eq HN.out)] at this; exact this))
      go_wp2_with fail
      go_ret
      exact ⟨by rw [HF.out]; rfl, HK1.out.trans HK.out (fun _ h => h.elim)⟩
end Go.Proofs.YtgljdkjepdknnaaGreatDoor
