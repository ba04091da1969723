/- The document's images (ratlineref09.images). -/
import Derived.Test.YtgljdkjepdknnaaGreatDoorML38
import Derived.Test.YtgljdkjepdknnaaGreatDoorML25
import Derived.Test.YtgljdkjepdknnaaGreatDoorML18
set_option maxHeartbeats 64000000
namespace Go.Proofs.YtgljdkjepdknnaaGreatDoor
open Go.ChangeShapes Go.WideShapes Go.ChangeAt Go.RowKit
set_option maxRecDepth 100000
set_option linter.unusedSimpArgs false
def iq (c : List Bool) (x : Clm) : Bool := if x.mode = 6 then x.imgs.all (eh c x.key) else x.imgs.isEmpty
theorem mO {α : Type} (q : α → Bool) {l : List α} {j : Nat} {x : α} (h : l[j]? = some x) : (l.take (j + 1)).all q = ((l.take j).all q && q x) := by
 rw [List.take_add_one, h]; simp
theorem k4 {α : Type} (q : α → Bool) {l : List α} {j : Nat} {x : α} (h : l[j]? = some x) (hq : q x = false) : l.all q = false := List.all_eq_false.2 ⟨x, List.mem_of_getElem? h, by rw [hq]; simp⟩
theorem pO {w : World} {cv : Value} {c : List Bool} {x : ClmE} (hc : du w cv c) (hx : RdCl w x) : Calls Tryz.prog 152 #[.agg #[cv], .agg x.cells.toArray] w fun r w' => r = .returned (.bool (iq c x.c)) ∧ Kept (fun _ => False) w w' := by
 obtain ⟨W1, hW1, hk1, hb1, hb2⟩ := iO w #[cv] x.cells.toArray dO tCl
 have wm := Eh (Rd.kept hc hk1 (fun _ _ h => h))
 have HP := Eh (show iq c x.c = if x.mode = 6 then x.imgs.all (eh c x.key) else x.imgs.isEmpty from rfl)
 have uW := Eh hW1
 have vd := Eh hk1
 have vj := Eh hb1
 have vm := Eh hb2
 have HY := Eh (hx.1.kept hk1)
 obtain ⟨ya, yc, hsl, n1, m1, _⟩ := hx.1.shape
 have yT := Eh hsl
 obtain ⟨_, _, ca, cc, rfl, _⟩ := hc
 obtain ⟨rr, hrr⟩ : ∃ rr, rr = iq c x.c := ⟨_, rfl⟩
 rw [← hrr]
 have vA := Eh hrr
 obtain ⟨N, hN⟩ : ∃ N, x.imgs.length = N := ⟨_, rfl⟩
 have HN := Eh hN
 rw [hN] at yT n1 m1
 rw [hsl, hN] at HY
 clear hW1 hk1 hb1 hb2 hx hsl hrr hN
 by_cases hm : x.mode = 6
 ·have HM := Eh hm
  have HR := Eh (show rr = x.imgs.all (eh c x.key) by rw [vA.out, HP.out, if_pos hm])
  clear HP vA hm
  go_enter Tryz.func152, Tryz.ntmps152
  go_upto_region 1 with fail
  rw [← uW.out]
  clear uW
  generalize w.heap.size + 1 = b2 at *
  generalize w.heap.size = b1 at *
  obtain ⟨y2, y6⟩ := aV vm.out
  rw [HM.out] at y2
  rw [yT.out] at y6
  go_wp2_with fail
  go_loopw [5] (fun i wr => ∃ j : Nat, i = .int .i64 j ∧ j ≤ N ∧ (x.imgs.take j).all (eh c x.key) = true ∧ Kept (fun _ => False) W1 wr) (fun i _ => N - (intOf i).toNat)
  case atStart => exact ⟨0, rfl, by omega, rfl, Kept.refl _ _⟩
  case round =>
   obtain ⟨j, rfl, hj, hn, hk⟩ := hrel
   have vT := Eh hn
   have HK := Eh hk
   clear hn hk y2 y6
   have y6 := (aV (aB HK.out vm.out)).2
   rw [yT.out] at y6
   by_cases hlt : j < N
   ·have hji : (j : Int) < (N : Int) := by omega
    obtain ⟨r, hr⟩ : ∃ r, x.imgs[j]? = some r := ⟨x.imgs[j]'(by rw [HN.out]; exact hlt), List.getElem?_eq_getElem _⟩
    obtain ⟨g2, o2, ra2, rc2, hg2, z2, hrow2, hl2, hrc2⟩ := fd (HY.out.kept HK.out) hr
    have yE := Eh hr
    rw [hg2] at y6
    obtain ⟨t0, tf⟩ := aK (aB HK.out vj.out)
    have xR := Eh (tG (Rd.kept wm.out HK.out (fun _ _ h => h)) hrow2)
    have ye := Eh hrow2
    obtain ⟨ft, hft⟩ : ∃ ft, eS c r = ft := ⟨_, rfl⟩
    rw [hft] at xR
    have HF := Eh hft
    clear hr hrow2 hft
    go_upto_region 8 with (go_at_call 173; refine xR.out.mono ?_; rintro e3 w3 ⟨rfl, hk3⟩; have vD := Eh (HK.out.trans hk3 (fun _ h => h.elim)); have BQ := Eh hk3; clear hk3 xR y6 z2 hg2 t0 tf)
    have AH := Eh (Rd.kept ye.out BQ.out (fun _ _ h => h))
    clear ye BQ
    obtain ⟨k0, k1, k2⟩ := gD (aB vD.out vm.out)
    cases r with
    | nil =>
     have HQ := Eh (show eh c x.key [] = true from rfl)
     refine ag [(0, false, 999), (1, false, 999), (2, false, 999), (3, false, 999), (4, false, 999), (5, false, 999), (6, false, 999), (7, false, 999), (8, false, 999), (9, false, 999), (10, false, 999), (11, false, 999), (12, false, 999), (13, false, 999), (14, false, 999)] (by kernel_rfl) (by kernel_rfl) ?_
     iterate 4 (refine af rfl rfl (fun K hK => ?_); go_simp; refine hK _ ?_; clear hK K)
     iterate 10 (first | (refine aq rfl rfl ?_; simp only [Act.put, Ei, Ej, Ek, El, Em, En]) | (refine am rfl rfl (fun K hK => ?_); go_simp; refine hK _ ?_; clear hK K))
     refine af rfl rfl (fun K hK => ?_); go_simp; refine hK _ ?_; clear hK K
     refine ar ?_
     go_wp2_with fail
     go_roundw
     case rel => exact ⟨j + 1, by go_num, by omega, by rw [mO _ yE.out, vT.out, HQ.out]; rfl, vD.out.drew⟩
     case measure => simp [intOf]; omega
    | cons y r =>
     obtain ⟨rg, rog, rfl⟩ := kC AH.out (k := 0) (x := y) rfl rfl
     obtain ⟨y0, y1, y2⟩ := gh (h := 0) (x := y) AH.out rfl
     rw [Nat.zero_mul, Nat.add_zero] at y0 y1 y2
     obtain ⟨M, hM⟩ : ∃ M, (y :: r).length = M := ⟨_, rfl⟩
     have hM3 : 0 < M := by rw [← hM]; simp
     have hM4 : (0 : Int) < (M : Int) := by omega
     rw [hM]
     clear hM
     cases ft
     ·have HQ := Eh (show eh c x.key (y :: r) = false by unfold eh; rw [HF.out]; rfl)
      refine ag [(0, false, 999), (1, false, 999), (2, false, 999), (3, false, 999), (4, false, 999), (5, false, 999), (6, false, 999), (7, false, 999), (8, false, 999), (9, false, 999), (10, false, 999), (11, false, 999), (12, false, 999), (13, false, 999), (14, false, 999)] (by kernel_rfl) (by kernel_rfl) ?_
      iterate 4 (refine af rfl rfl (fun K hK => ?_); go_simp; refine hK _ ?_; clear hK K)
      iterate 10 (first | (refine aq rfl rfl ?_; simp only [Act.put, Ei, Ej, Ek, El, Em, En]) | (refine am rfl rfl (fun K hK => ?_); go_simp; refine hK _ ?_; clear hK K))
      refine af rfl rfl (fun K hK => ?_); go_simp; refine hK _ ?_; clear hK K
      refine ar ?_
      go_wp2_with fail
      go_ret
      exact ⟨by rw [HR.out, k4 _ yE.out HQ.out]; rfl, vd.out.trans vD.out.drew (fun _ h => h.elim)⟩
     ·have Dj := Eh (show eh c x.key (y :: r) = cx y.t y.n y.s x.key.t x.key.n x.key.s by unfold eh; rw [HF.out, bR]; simp)
      cases hq : cx y.t y.n y.s x.key.t x.key.n x.key.s
      ·have HQ := Eh (Dj.out.trans hq)
       refine ag [(0, false, 999), (1, false, 999), (2, false, 999), (3, false, 999), (4, false, 999), (5, false, 999), (6, false, 999), (7, false, 999), (8, false, 999), (9, false, 999), (10, false, 999), (11, false, 999), (12, false, 999), (13, false, 999), (14, false, 999)] (by kernel_rfl) (by kernel_rfl) ?_
       iterate 4 (refine af rfl rfl (fun K hK => ?_); go_simp; refine hK _ ?_; clear hK K)
       iterate 10 (first | (refine aq rfl rfl ?_; simp only [Act.put, Ei, Ej, Ek, El, Em, En]) | (refine am rfl rfl (fun K hK => ?_); go_simp; refine hK _ ?_; clear hK K))
       refine af rfl rfl (fun K hK => ?_); go_simp; refine hK _ ?_; clear hK K
       refine ar ?_
       go_wp2_with fail
       go_ret
       exact ⟨by rw [HR.out, k4 _ yE.out HQ.out]; rfl, vd.out.trans vD.out.drew (fun _ h => h.elim)⟩
      ·have HQ := Eh (Dj.out.trans hq)
       refine ag [(0, false, 999), (1, false, 999), (2, false, 999), (3, false, 999), (4, false, 999), (5, false, 999), (6, false, 999), (7, false, 999), (8, false, 999), (9, false, 999), (10, false, 999), (11, false, 999), (12, false, 999), (13, false, 999), (14, false, 999)] (by kernel_rfl) (by kernel_rfl) ?_
       iterate 4 (refine af rfl rfl (fun K hK => ?_); go_simp; refine hK _ ?_; clear hK K)
       iterate 10 (first | (refine aq rfl rfl ?_; simp only [Act.put, Ei, Ej, Ek, El, Em, En]) | (refine am rfl rfl (fun K hK => ?_); go_simp; refine hK _ ?_; clear hK K))
       refine af rfl rfl (fun K hK => ?_); go_simp; refine hK _ ?_; clear hK K
       refine ar ?_
       go_wp2_with fail
       go_roundw
       case rel => exact ⟨j + 1, by go_num, by omega, by rw [mO _ yE.out, vT.out, HQ.out]; rfl, vD.out.drew⟩
       case measure => simp [intOf]; omega
   ·have hji : ¬ ((j : Int) < (N : Int)) := by omega
    obtain rfl : j = N := by omega
    have HF := Eh (show x.imgs.all (eh c x.key) = true by have := vT.out; rw [List.take_of_length_le (Nat.le_of_eq HN.out)] at this; exact this)
    go_wp2_with fail
    go_ret
    exact ⟨by rw [HR.out, HF.out]; rfl, vd.out.trans HK.out (fun _ h => h.elim)⟩
 ·have HR := Eh (show rr = x.imgs.isEmpty by rw [vA.out, HP.out, if_neg hm])
  have hq : (x.mode != 6) = true := by simpa using hm
  clear HP vA hm
  go_enter Tryz.func152, Tryz.ntmps152
  go_upto_region 1 with fail
  rw [← uW.out]
  clear uW
  generalize w.heap.size + 1 = b2 at *
  generalize w.heap.size = b1 at *
  obtain ⟨y2, y6⟩ := aV vm.out
  rw [yT.out] at y6
  by_cases h0 : N = 0
  ·have hE := Eh (show x.imgs.isEmpty = true by rw [List.isEmpty_iff]; exact List.length_eq_zero_iff.1 (by rw [HN.out]; exact h0))
   have h1 : ((N : Int) == 0) = true := by simp [h0]
   go_wp2_with fail
   go_ret
   exact ⟨by rw [HR.out, hE.out]; rfl, vd.out⟩
  ·have hE := Eh (show x.imgs.isEmpty = false by cases hx : x.imgs with | nil => exact absurd (by have := HN.out; rw [hx] at this; exact this.symm) h0 | cons _ _ => rfl)
   have h1 : ((N : Int) == 0) = false := by simp [h0]
   go_wp2_with fail
   go_ret
   exact ⟨by rw [HR.out, hE.out]; rfl, vd.out⟩
end Go.Proofs.YtgljdkjepdknnaaGreatDoor
