/- The document's answer: one claim in the place of two (ratlineref09.Join). -/
import Derived.Test.YtgljdkjepdknnaaGreatDoorJ14
import Derived.Test.YtgljdkjepdknnaaGreatDoorJ25
namespace Go.Proofs.YtgljdkjepdknnaaGreatDoor
open Go.ChangeShapes Go.WideShapes Go.ChangeAt Go.RowKit
set_option maxRecDepth 100000
set_option linter.unusedSimpArgs false

theorem rowAtD {B w : World} {D : PH} {l : List HP} {ao : Option Addr} {N cap j : Nat} {rs : List (List Val)} {r : List Val} (h : RowsAt D (.slice ao N cap) rs) (hs : Sat B D w l) (hr : rs[j]? = some r) :
    ∃ g o ra rc, ao = some ⟨g, o, none⟩ ∧ w.cell? ⟨g, o + j, none⟩ = some (.slice ra r.length rc) ∧ RowRd w (.slice ra r.length rc) r ∧ RowD D (.slice ra r.length rc) r ∧ r.length ≤ 9223372036854775807 ∧ r.length ≤ rc := by
  obtain ⟨hh, h1, hone, h2, h3⟩ := h
  have hlt : j < rs.length := (List.getElem?_eq_some_iff.1 hr).1
  obtain ⟨hv, hhv⟩ : ∃ hv, hh[j]? = some hv := ⟨hh[j]'(by omega), List.getElem?_eq_getElem (by omega)⟩
  obtain ⟨g, o, ra, rc, ha, hc, hrow, hl, hrc⟩ := rowAtR (RowsAt.rd hs ⟨hh, h1, hone, h2, h3⟩) hr
  have hrd := h2.rd hs
  obtain ⟨_, _, ao', cap', hvv, _, _, _, hcc⟩ := hrd
  have e : w.cell? ⟨g, o + j, none⟩ = some hv := by
    rcases hcc with h0 | ⟨g', o', hg, hcell⟩
    · omega
    · cases hvv
      rw [ha] at hg
      cases hg
      exact hcell j hv hhv
  rw [hc] at e
  obtain rfl := Option.some.inj e
  exact ⟨g, o, ra, rc, ha, hc, hrow, h3 j _ r hhv hr, hl, hrc⟩
set_option maxHeartbeats 8000000 in
theorem rcJoin_ok {B w : World} {D : PH} {l : List HP} {x y : ClmE} (hx : ClOk D x) (hy : ClOk D y) (hsx : ClmSm 1000000 x.c) (hsy : ClmSm 1000000 y.c) (hs : Sat B D w l) :
    Calls Tryz.prog 146 #[.agg x.cells.toArray, .agg y.cells.toArray] w (JoinedC B D l (RC.join x.c y.c)) := by
  obtain ⟨i0, hi, hz0, hz1, hz2⟩ := info_parts infoRow
  have HI := Lib.hid (And.intro hi (And.intro hz0 (And.intro hz1 hz2)))
  obtain ⟨W1, hW1, hs1⟩ := three_new hs x.cells.toArray y.cells.toArray cZ tCl tCl tCl
  have HS1 := Lib.hid hs1
  have HW1 := Lib.hid hW1
  have HX := Lib.hid hx
  have HY := Lib.hid hy
  have HSY := Lib.hid hsy
  have hN1 : x.imgs.length ≤ 1000000 := hsx.1
  have hM1 : y.imgs.length ≤ 1000000 := hsy.1
  have HLX := Lib.hid (loadCl (blk_range (hs1.blk 0 rfl)))
  have HLY := Lib.hid (loadCl (blk_range (hs1.blk 1 rfl)))
  have HSS := Lib.hid (rcSame_ok (hx.rd hs1) (hy.rd hs1))
  clear hi hz0 hz1 hz2 hx hy hs hs1 hW1 hsx hsy
  cases hsame : RC.same x.c y.c
  · have HJ := Lib.hid (show RC.join x.c y.c = x.c from if_neg (by rw [show clmSame x.c y.c = false from hsame]; simp))
    rw [HJ.out]
    rw [hsame] at HSS
    clear hsame
    go_enter Tryz.func146, Tryz.ntmps146
    go_upto_region 1 with fail
    rw [← HW1.out]
    clear HW1
    generalize w.heap.size + 1 + 1 = b3 at *
    generalize w.heap.size + 1 = b2 at *
    generalize w.heap.size = b1 at *
    go_wp2_with (first | (refine wpList_ld rfl _ _ rfl _ _ rfl _ HLX.out ?_) | (refine wpList_ld rfl _ _ rfl _ _ rfl _ HLY.out ?_) | (go_at_call 26; refine HSS.out.mono ?_; rintro e5 w5 ⟨rfl, hk5⟩; have hs5 := HS1.out.kept hk5; have HL5 := Lib.hid (loadCl (blk_range (hs5.blk 0 rfl))); have HS5 := Lib.hid (hs5.front 2 rfl); clear hs5 hk5 HSS HLX HLY HS1) | (refine wpList_ld rfl _ _ rfl _ _ rfl _ HL5.out ?_) | (refine wpList_store_whole rfl _ _ _ rfl tCl b3 rfl x.cells rfl cZ HS5.out (by kernel_rfl) rfl (ClmE.one _) ?_; intro w6 hs6; have HS6 := Lib.hid hs6; clear hs6 HS5 HL5))
    refine bodyPost_ret (results_c1 rfl _ _ rfl (loadCl (blk_range (HS6.out.blk 0 rfl)))) rfl ?_
    exact ⟨x, D, rfl, rfl, PH.le.refl _, HX.out, HS6.out.drop.drop.drop⟩
  · have HJ := Lib.hid (show RC.join x.c y.c = { x.c with mode := joinM x.mode y.mode, imgs := imgJoin x.imgs y.imgs } from if_pos hsame)
    rw [HJ.out]
    rw [hsame] at HSS
    clear hsame
    obtain ⟨hx0, hxl, hx1, hxp, hxr⟩ := HX.out.1
    have HRH := Lib.hid (show RowsH D hx0 x.imgs from ⟨hxl, hxr⟩)
    have HX1 := Lib.hid hx1
    have HXP := Lib.hid hxp
    obtain ⟨ia, il, hil, _⟩ : ∃ a c, Value.slice y.ia y.il y.ic = .slice a y.imgs.length c ∧ y.imgs.length ≤ c ∧ y.imgs.length ≤ 9223372036854775807 ∧ c ≤ 9223372036854775807 := (HY.out.1.rd HS1.out).shape
    have HIL := Lib.hid (Value.slice.inj hil).2.1
    clear hxl hx1 hxp hxr hil
    go_enter Tryz.func146, Tryz.ntmps146
    go_upto_region 1 with fail
    rw [← HW1.out]
    clear HW1
    generalize w.heap.size + 1 + 1 = b3 at *
    generalize w.heap.size + 1 = b2 at *
    generalize w.heap.size = b1 at *
    go_upto_region 4 with (first | (refine wpList_ld rfl _ _ rfl _ _ rfl _ HLX.out ?_) | (refine wpList_ld rfl _ _ rfl _ _ rfl _ HLY.out ?_) | (go_at_call 26; refine HSS.out.mono ?_; rintro e5 w5 ⟨rfl, hk5⟩; have HS5 := Lib.hid (HS1.out.kept hk5); clear hk5 HSS HLX HLY HS1))
    have x2 := (boxClm2 (HS5.out.blk 0 rfl)).1
    have y2 := (boxClm2 (HS5.out.blk 1 rfl)).1
    have HJM := Lib.hid (rJoin_ok x.mode y.mode w5)
    have HJV := Lib.hid (show ∃ m, m = joinM x.mode y.mode from ⟨_, rfl⟩)
    obtain ⟨jm, hjm⟩ := HJV.out
    have HMV := Lib.hid hjm
    rw [← hjm] at HJM
    clear hjm HJV
    go_upto_region 5 with (go_at_call 172; refine HJM.out.mono ?_; rintro e6 w6 ⟨rfl, hk6⟩; have hs6 := HS5.out.kept hk6; have z2 := (boxClm2 (hs6.blk 0 rfl)).1; have zf := frz (hs6.blk 0 rfl); have HS6 := Lib.hid (Sat.setM hs6 jm); clear hs6 hk6 HJM HS5 x2 y2)
    obtain ⟨W6, hW6, hs6⟩ := Sat.hide HS6.out
    rw [← hW6]
    clear hW6 HS6 z2 zf
    have HXR := Lib.hid (show Rd W6 1 (.slice x.ia x.il x.ic) x.imgs.length hx0 by have := HXP.out.rd hs6; exact this)
    have HSN := Lib.hid (hs6.own_nil tRw 1)
    have x6 := boxI (hs6.blk 0 rfl)
    have y6 := boxI (hs6.blk 1 rfl)
    rw [HIL.out] at y6
    clear hs6
    generalize hM : y.imgs.length = M at *
    have HM := Lib.hid hM
    clear hM
    go_upto_region 7 with (refine wpList_append_Sat _ rfl _ _ 32 rfl tRw i0 _ 1 24 Tryz.underlying32 HI.out.1 HI.out.2.1 HI.out.2.2.1 HI.out.2.2.2 rfl _ 0 _ rfl HSN.out _ x.imgs.length _ rfl HXR.out HX1.out (by unfold maxLen; omega) (by omega) ?_; intro v7 w7 hs7 h17; obtain ⟨va7, vc7, rfl⟩ := hs7.own_shape; have HS7 := Lib.hid hs7; clear hs7 h17 HSN HXR x6 y6)
    have HS8 := Lib.hid (show Sat B D w7 (ownS tRw 1 (.slice va7 x.imgs.length vc7) x.imgs.length hx0 :: blk b1 (x.layM jm).cells.toArray tCl :: blk b2 y.cells.toArray tCl :: blk b3 cZ tCl :: l) from by have := HS7.out; rw [Nat.zero_add, List.nil_append] at this; exact this)
    clear HS7
    have y6 := boxI (HS8.out.blk 2 rfl)
    rw [HIL.out] at y6
    go_wp2_with fail
    go_loopw [6, 7] (fun sv i wr => ∃ (j n : Nat) (va : Option Addr) (vc : Nat) (hs : List Value) (rs : List (List Val)), i = .int .i64 j ∧ sv = .slice va n vc ∧ j ≤ M ∧ rs = imgJoin x.imgs (y.imgs.take j) ∧ n = rs.length ∧ RowsH D hs rs ∧ Sat B D wr (ownS tRw 1 (.slice va n vc) n hs :: blk b1 (x.layM jm).cells.toArray tCl :: blk b2 y.cells.toArray tCl :: blk b3 cZ tCl :: l)) (fun _ i _ => M - (intOf i).toNat)
    case atStart => exact ⟨0, x.imgs.length, va7, vc7, hx0, x.imgs, rfl, rfl, by omega, rfl, rfl, HRH.out, HS8.out⟩
    case round =>
      obtain ⟨j, n, va, vc, hs, rs, rfl, rfl, hj, hrs, hn, hrh, hs3⟩ := hrel
      have HRS := Lib.hid hrs
      have hn2 : n ≤ 2000000 := by have := (imgJoin_len x.imgs (y.imgs.take j)).2; rw [← hrs, List.length_take] at this; omega
      have HNR := Lib.hid hn
      have HRH2 := Lib.hid hrh
      have HS3 := Lib.hid hs3
      clear y6
      have y6 := boxI (hs3.blk 2 rfl)
      rw [HIL.out] at y6
      clear hrs hn hrh hs3
      by_cases hlt : j < M
      · have hji : (j : Int) < (M : Int) := by omega
        obtain ⟨r, hr⟩ : ∃ r, y.imgs[j]? = some r := ⟨y.imgs[j]'(by rw [HM.out]; exact hlt), List.getElem?_eq_getElem _⟩
        obtain ⟨g, og, ra, rc, hga, y0, hrow, hrd, hrl, hrc⟩ := rowAtD (by have := HY.out.1; rw [HIL.out] at this; exact this) HS3.out hr
        have HGA := Lib.hid hga
        have HR := Lib.hid hr
        have HIN := Lib.hid (rIn_ok (HRH2.out.rd HS3.out (by rw [HRH2.out.1, ← HNR.out]; exact (HS3.out.own 0 rfl).rd)) hrow)
        have HSTEP := Lib.hid (show imgJoin x.imgs (y.imgs.take (j + 1)) = if imgIn rs r then rs else rs ++ [r] by rw [imgJoin_step hr, ← HRS.out])
        rw [HGA.out] at y6
        clear hr hrow hga hrd
        cases hin : imgIn rs r
        · rw [hin] at HIN HSTEP
          clear hin
          go_upto_region 12 with (go_at_call 55; refine HIN.out.mono ?_; rintro e8 w8 ⟨rfl, hk8⟩; have HS4 := Lib.hid (HS3.out.kept hk8); clear hk8 HIN HS3 y6 y0)
          obtain ⟨g, og, ra, rc, hga, y0, hrow, hrd, hrl, hrc⟩ := rowAtD (by have := HY.out.1; rw [HIL.out] at this; exact this) HS4.out HR.out
          have HRD := Lib.hid hrd
          have HGA := Lib.hid hga
          clear hrow hrd hga
          have y6 := boxI (HS4.out.blk 2 rfl)
          rw [HIL.out, HGA.out] at y6
          have HSA := Lib.hid ((HS4.out.alloc #[.slice ra r.length rc] tRw).front 1 rfl)
          have HRB := Lib.hid (rd_block (size := 1) (n := 1) ((HS4.out.alloc #[.slice ra r.length rc] tRw).blk 0 rfl) rfl (by unfold maxLen; omega))
          go_wp2_with (refine wpList_append_Sat _ rfl _ _ 32 rfl tRw i0 _ 1 24 Tryz.underlying32 HI.out.1 HI.out.2.1 HI.out.2.2.1 HI.out.2.2.2 rfl _ n _ rfl HSA.out _ 1 _ rfl HRB.out (by intro u hu; simp at hu; subst hu; rfl) (by unfold maxLen; omega) (by omega) ?_; intro v7 w7 hs7 h17; obtain ⟨va7, vc7, rfl⟩ := hs7.own_shape; have HS7 := Lib.hid hs7; clear hs7 h17 HSA HRB HS4 y6 y0)
          have HSF := Lib.hid (show Sat B D w7 (ownS tRw 1 (.slice va7 (n + 1) vc7) (n + 1) (hs ++ [Value.slice ra r.length rc]) :: blk b1 (x.layM jm).cells.toArray tCl :: blk b2 y.cells.toArray tCl :: blk b3 cZ tCl :: l) from (Sat.front (show Sat B D w7 (ownS tRw 1 (.slice va7 (n + 1) vc7) (n + 1) (hs ++ [Value.slice ra r.length rc]) :: blk w8.heap.size #[Value.slice ra r.length rc] tRw :: blk b1 (x.layM jm).cells.toArray tCl :: blk b2 y.cells.toArray tCl :: blk b3 cZ tCl :: l) from HS7.out) 1 rfl).drop)
          have HRN := Lib.hid (HRH2.out.snoc HRD.out)
          clear HS7
          go_roundw
          case rel => exact ⟨j + 1, n + 1, va7, vc7, hs ++ [Value.slice ra r.length rc], rs ++ [r], by go_num, rfl, by omega, by rw [HSTEP.out]; rfl, by rw [List.length_append, HNR.out]; rfl, HRN.out, HSF.out⟩
          case measure => simp [intOf]; omega
        · rw [hin] at HIN HSTEP
          clear hin
          go_wp2_with (go_at_call 55; refine HIN.out.mono ?_; rintro e8 w8 ⟨rfl, hk8⟩; have HS4 := Lib.hid (HS3.out.kept hk8); clear hk8 HIN HS3 y6 y0)
          go_roundw
          case rel => exact ⟨j + 1, n, va, vc, hs, rs, by go_num, rfl, by omega, by rw [HSTEP.out]; rfl, HNR.out, HRH2.out, HS4.out⟩
          case measure => simp [intOf]; omega
      · have hji : ¬ ((j : Int) < (M : Int)) := by omega
        have hjM : j = M := by omega
        subst hjM
        have x6 := boxI (HS3.out.blk 1 rfl)
        have xf := frz (HS3.out.blk 1 rfl)
        have HS5 := Lib.hid (Sat.setI (HS3.out.front 1 rfl) va n vc rs)
        go_upto_region 14 with fail
        obtain ⟨W9, hW9, hs9⟩ := Sat.hide HS5.out
        rw [← hW9]
        clear hW9 HS5 HS3 x6 xf y6
        have HL9 := Lib.hid (loadCl (blk_range (hs9.blk 0 rfl)))
        have HS9 := Lib.hid (show Sat B D W9 (blk b3 cZ tCl :: blk b1 ((x.layM jm).layI va n vc rs).cells.toArray tCl :: ownS tRw 1 (.slice va n vc) n hs :: blk b2 y.cells.toArray tCl :: l) from hs9.front 3 rfl)
        clear hs9
        go_wp2_with (first | (refine wpList_ld rfl _ _ rfl _ _ rfl _ HL9.out ?_) | (refine wpList_store_whole rfl _ _ _ rfl tCl b3 rfl ((x.layM jm).layI va n vc rs).cells rfl cZ HS9.out (by kernel_rfl) rfl (ClmE.one _) ?_; intro w6 hs6; have HS6 := Lib.hid hs6; clear hs6 HS9 HL9))
        refine bodyPost_ret (results_c1 rfl _ _ rfl (loadCl (blk_range (HS6.out.blk 0 rfl)))) rfl ?_
        have h8 := HS6.out.rot.rot
        obtain ⟨D5, hle5, hrd5, hs5⟩ := h8.own_give
        have hrs : rs = imgJoin x.imgs y.imgs := by rw [HRS.out, ← HM.out, List.take_length]
        refine ⟨(x.layM jm).layI va n vc rs, D5, rfl, ?_, hle5, ⟨?_, HX.out.2.mono hle5⟩, hs5.drop.drop.drop⟩
        · show Clm.mk x.kind x.table jm x.key rs x.pr.p = Clm.mk x.kind x.table (joinM x.mode y.mode) x.key (imgJoin x.imgs y.imgs) x.pr.p
          rw [HMV.out, hrs]
        · refine (HRH2.out.mono hle5).at ?_ (h8.own 0 rfl).2.1
          rw [HRH2.out.1, ← HNR.out]; exact hrd5
end Go.Proofs.YtgljdkjepdknnaaGreatDoor
