/- Joined texts: The document's Right, May of a table, Fits (ratlineref01, ratlineref02). (printed by genlk.py) The document's Size, part, May of predicates (ratlineref03). (printed by genrm2.py) -/
import Derived.Test.YtgljdkjepdknnaaGreatDoorMT22
import Derived.Test.YtgljdkjepdknnaaGreatDoorMT24
set_option maxHeartbeats 64000000
namespace Go.Proofs.YtgljdkjepdknnaaGreatDoor
open Go.ChangeShapes Go.WideShapes Go.ChangeAt Go.RowKit
set_option maxRecDepth 100000
set_option linter.unusedSimpArgs false
theorem qu (n : Int) (s : ByteArray) : a9 ⟨false, n, s⟩ = s.toList.isEmpty := by
 unfold a9
 simp only [Bool.false_eq_true, if_false]
 by_cases h : s = ⟨#[]⟩
 ·subst h
  rw [ByteArray.toList_eq]
  rfl
 ·rw [decide_eq_false h, ByteArray.toList_eq]
  cases he : s.data.toList.isEmpty with
  | false => rfl
  | true =>
   exfalso
   apply h
   obtain ⟨⟨x⟩⟩ := s
   cases x with
   | nil => rfl
   | cons a b => simp at he
theorem iU (v : Val) (w : World) : Calls Tryz.prog 151 #[v.v] w fun e w' => e = .returned (.bool (a9 v)) ∧ Kept (fun _ => False) w w' := by
 obtain ⟨t, n, s⟩ := v
 have hk : Kept (fun _ => False) w (w.alloc (.cells #[.bool t, .int .i64 n, .string s] 31)) := (Kept.refl _ _).alloc _
 have HK := BO hk
 clear hk
 cases t
 ·have E := BO (qu n s)
  go_enter Tryz.func151, Tryz.ntmps151
  go_wp2_with fail
  go_ret
  exact ⟨by rw [E.out]; rfl, HK.out⟩
 ·by_cases h : n = 0
  ·subst h
   by_cases hs : (s.size : Int) ≤ 12
   ·have E := BO (show a9 ⟨true, 0, s⟩ = true by simp [a9]; omega)
    go_enter Tryz.func151, Tryz.ntmps151
    go_wp2_with fail
    go_ret
    exact ⟨by rw [E.out]; rfl, HK.out⟩
   ·have E := BO (show a9 ⟨true, 0, s⟩ = false by simp [a9]; omega)
    go_enter Tryz.func151, Tryz.ntmps151
    go_wp2_with fail
    go_ret
    exact ⟨by rw [E.out]; rfl, HK.out⟩
  ·have hb : (n == 0) = false := by simpa using h
   have E := BO (show a9 ⟨true, n, s⟩ = false by simp [a9, h])
   go_enter Tryz.func151, Tryz.ntmps151
   go_wp2_with fail
   go_ret
   exact ⟨by rw [E.out]; rfl, HK.out⟩
def jw (c : List Bool) : Bool := fA c
theorem lW {w : World} {cv : Value} {c : List Bool} (h : da w cv c) : Calls Tryz.prog 150 #[.agg #[cv]] w fun e w' => e = .returned (.bool (jw c)) ∧ Kept (fun _ => False) w w' := by
 obtain ⟨-, m1, ao, cap, rfl, -⟩ := h
 have HK := BO (show Kept (fun _ => False) w (w.alloc (.cells #[.slice ao c.length cap] dz)) from (Kept.refl _ _).alloc _)
 by_cases h1 : 1 ≤ c.length
 ·by_cases h2 : c.length ≤ 4
  ·have HM := BO (show jw c = true by simp [jw, fA, h1, h2])
   have e1 : ((c.length : Int) ≥ 1) := by omega
   have e2 : ((c.length : Int) ≤ 4) := by omega
   go_enter Tryz.func150, Tryz.ntmps150
   go_wp2_with fail
   go_ret
   rw [HM.out]
   exact ⟨rfl, HK.out⟩
  ·have HM := BO (show jw c = false by simp [jw, fA, h2])
   have e1 : ((c.length : Int) ≥ 1) := by omega
   have e2 : ¬ ((c.length : Int) ≤ 4) := by omega
   go_enter Tryz.func150, Tryz.ntmps150
   go_wp2_with fail
   go_ret
   rw [HM.out]
   exact ⟨rfl, HK.out⟩
 ·have HM := BO (show jw c = false by simp [jw, fA, h1])
  have e1 : ¬ ((c.length : Int) ≥ 1) := by omega
  go_enter Tryz.func150, Tryz.ntmps150
  go_wp2_with fail
  go_ret
  rw [HM.out]
  exact ⟨rfl, HK.out⟩
theorem sz {w : World} {cv rv : Value} {c : List Bool} {r : List Val} (hc : da w cv c) (hr : cO w rv r) : Calls Tryz.prog 173 #[.agg #[cv], rv] w fun e w' => e = .returned (.bool (ex c r)) ∧ Kept (fun _ => False) w w' := by
 have hk1 : Kept (fun _ => False) w (w.alloc (.cells #[cv] dz)) := (Kept.refl _ _).alloc _
 have hb1 : (w.alloc (.cells #[cv] dz)).heap[w.heap.size]? = some (.cells #[cv] dz (0, 0)) := aB w _
 have HC := BO (Rd.kept hc hk1 (fun _ _ h => h))
 have HR := BO (Rd.kept hr hk1 (fun _ _ h => h))
 have sW := BO hk1
 have sZ := BO hb1
 obtain ⟨-, m1, co, ccap, rfl, -⟩ := hc
 obtain ⟨-, m2, ro, rcap, rfl, -⟩ := hr
 clear hk1 hb1
 go_enter Tryz.func173, Tryz.ntmps173
 go_upto_region 1 with (fail)
 obtain ⟨W, hW⟩ : ∃ W, W = w.alloc (.cells #[.slice co c.length ccap] dz) := ⟨_, rfl⟩
 rw [← hW] at HC HR sW sZ ⊢
 generalize w.heap.size = bt at sZ ⊢
 clear hW
 obtain ⟨b0, bf⟩ := aM sZ.out
 have wY := BO (lW HC.out)
 cases hm : fA c
 ·have HM := BO (show jw c = false from hm)
  have HF := BO (show ex c r = false by simp [ex, hm])
  clear hm
  go_wp2_with (go_at_call 150; refine wY.out.mono ?_; rw [HM.out]; rintro e1 w1 ⟨rfl, hk2⟩; have s8 := BO hk2; clear hk2 b0 bf)
  go_ret
  rw [HF.out]
  exact ⟨rfl, sW.out.trans s8.out (fun _ h => h.elim)⟩
 have HM := BO (show jw c = true from hm)
 by_cases hl : r.length = c.length
 ·obtain ⟨N, hN⟩ : ∃ N, r.length = N := ⟨_, rfl⟩
  have HF := BO (show ex c r = dQ c r N by unfold ex; rw [hm, decide_eq_true hl, hN]; rfl)
  have HN := BO hN
  have hcn : c.length = N := by omega
  have zn := BO hcn
  rw [hcn] at HC wY sZ b0 m1 ⊢
  rw [hN] at HR m2 ⊢
  unfold maxLen at m1 m2
  clear hm hl hN hcn
  go_upto_region 4 with (go_at_call 150; refine wY.out.mono ?_; rw [HM.out]; rintro e1 w1 ⟨rfl, hk2⟩; have s8 := BO hk2; clear hk2 b0 bf; have hb1 := (s8.out.block _ (aI sZ.out) (fun h => h)).trans sZ.out; obtain ⟨b0, bf⟩ := aM hb1; have s7 := BO hb1; clear hb1)
  have ug := BO (Rd.kept HC.out s8.out (fun _ _ h => h))
  have tR := BO (Rd.kept HR.out s8.out (fun _ _ h => h))
  have tn := BO (sW.out.trans s8.out (fun _ h => h.elim))
  clear HC HR sZ wY HM sW s8
  go_wp2_with fail
  clear b0 bf
  go_loopw [6] (fun idx wr => ∃ j : Nat, idx = .int .i64 j ∧ j ≤ N ∧ dQ c r j = true ∧ Kept (fun _ => False) w1 wr) (fun idx _ => N - (intOf idx).toNat)
  case atStart => exact ⟨0, rfl, Nat.zero_le _, by simp [dQ], Kept.refl _ _⟩
  case round =>
   obtain ⟨j, rfl, hj, hno, hkr⟩ := hrel
   by_cases hlt : j < N
   ·obtain ⟨x, hx⟩ : ∃ x, r[j]? = some x := ⟨r[j]'(by rw [HN.out]; exact hlt), List.getElem?_eq_getElem _⟩
    obtain ⟨b, hb⟩ : ∃ b, c[j]? = some b := ⟨c[j]'(by rw [zn.out]; exact hlt), List.getElem?_eq_getElem _⟩
    have hrr := Rd.kept tR.out hkr (fun _ _ h => h)
    obtain ⟨rg, rog, rfl⟩ := jz hrr hx HN.out
    obtain ⟨cg, cog, rfl⟩ := gJ ug.out hb zn.out
    obtain ⟨y0, y1, y2⟩ := fE hrr hx
    have zC := BO hkr
    have uH := BO (kv hx hb)
    have tK := BO hno
    have Ah := BO hb
    have HX := BO hx
    have hib : (j : Int) < (N : Int) := by omega
    have yY := BO (iU x wr)
    clear hx hb hrr hno hkr
    cases hv : a9 x
    ·have t7 := BO (show dQ c r N = false from fK (show j + 1 ≤ N by omega) (by rw [uH.out, hv]; simp))
     have HV := BO hv
     clear hv
     go_upto_region 8 with (go_at_call 151; refine yY.out.mono ?_; rw [HV.out]; rintro e4 w4 ⟨rfl, hk5⟩; have uq := BO ((tn.out.trans zC.out (fun _ h => h.elim)).trans hk5 (fun _ h => h.elim)); clear hk5 y0 y1 y2)
     go_quiet (fail)
     go_wp2_with fail
     go_ret
     rw [HF.out, t7.out]
     exact ⟨rfl, uq.out.trans ((Kept.refl (fun _ => False) w4).drewN _) (fun _ h => h.elim)⟩
    ·have HV := BO hv
     go_upto_region 8 with (go_at_call 151; refine yY.out.mono ?_; rw [HV.out]; rintro e4 w4 ⟨rfl, hk5⟩; have uq := BO (zC.out.trans hk5 (fun _ h => h.elim)); clear hk5 y0 y1 y2)
     obtain ⟨b0, bf⟩ := aM ((uq.out.block _ (aI s7.out) (fun h => h)).trans s7.out)
     have hcc := fo (Rd.kept ug.out uq.out (fun _ _ h => h)) Ah.out
     obtain ⟨y0, y1, y2⟩ := fE (Rd.kept tR.out uq.out (fun _ _ h => h)) HX.out
     by_cases hxt : x.t = b
     ·subst hxt
      have t7 := BO (show dQ c r (j + 1) = true by rw [uH.out, hv, tK.out]; simp)
      clear hv
      go_quiet (fail)
      go_wp2_with fail
      go_roundw
      case rel => exact ⟨j + 1, by go_num, by omega, t7.out, uq.out.trans ((Kept.refl (fun _ => False) w4).drewN _) (fun _ h => h.elim)⟩
      case measure => simp [intOf]; omega
     ·obtain rfl : b = !x.t := by cases b <;> cases h : x.t <;> simp_all
      have t7 := BO (show dQ c r N = false from fK (show j + 1 ≤ N by omega) (by rw [uH.out]; simp))
      clear hxt hv
      go_quiet (fail)
      go_wp2_with fail
      go_ret
      rw [HF.out, t7.out]
      exact ⟨rfl, (tn.out.trans uq.out (fun _ h => h.elim)).trans ((Kept.refl (fun _ => False) w4).drewN _) (fun _ h => h.elim)⟩
   ·obtain rfl : j = N := by omega
    have t7 := BO hno
    have Ai := BO (tn.out.trans hkr (fun _ h => h.elim))
    clear hno hkr
    go_wp2_with fail
    go_ret
    rw [HF.out, t7.out]
    exact ⟨rfl, Ai.out⟩
 ·have HF := BO (show ex c r = false by unfold ex; rw [hm, decide_eq_false hl]; rfl)
  have hl' : ¬ ((r.length : Int) = (c.length : Int)) := by omega
  clear hm hl
  go_wp2_with (go_at_call 150; refine wY.out.mono ?_; rw [HM.out]; rintro e1 w1 ⟨rfl, hk2⟩; have s8 := BO hk2; clear hk2 b0 bf; obtain ⟨b0, bf⟩ := aM ((s8.out.block _ (aI sZ.out) (fun h => h)).trans sZ.out))
  go_ret
  rw [HF.out]
  exact ⟨rfl, sW.out.trans s8.out (fun _ h => h.elim)⟩
theorem eK {w : World} {cv : Value} {c : List Bool} (i : Int) (v : Val) (hc : da w cv c) :
  Calls Tryz.prog 195 #[.agg #[cv], .int .i64 i, v.v] w fun e w' => e = .returned (.bool (bE c i v)) ∧ Kept (fun _ => False) w w' := by
 obtain ⟨W1, hW1, hk1, hb1, hb2⟩ := gX w #[cv] #[.bool v.t, .int .i64 v.n, .string v.s] dz tV
 have HC := BO (Rd.kept hc hk1 (fun _ _ h => h))
 obtain ⟨_, m1, ao, cap, rfl, _⟩ := hc
 have sR := BO hW1
 have sW := BO hk1
 have sZ := BO hb1
 have s7 := BO hb2
 have HR := BO (iU v W1)
 obtain ⟨rr, hrr⟩ : ∃ rr, rr = bE c i v := ⟨_, rfl⟩
 rw [← hrr]
 have tl := BO hrr
 obtain ⟨rv, hrv⟩ : ∃ rv, a9 v = rv := ⟨_, rfl⟩
 rw [hrv] at HR
 have BD := BO hrv
 clear hW1 hk1 hb1 hb2 hrr hrv
 unfold maxLen at m1
 go_enter Tryz.func195, Tryz.ntmps195
 go_upto_region 1 with fail
 rw [← sR.out]
 clear sR
 generalize w.heap.size + 1 = b2 at *
 generalize w.heap.size = b1 at *
 obtain ⟨x0, x1, x2, xf⟩ := fV s7.out
 go_upto_region 2 with (go_at_call 151; refine HR.out.mono ?_; rintro e1 w1 ⟨rfl, hk1⟩; have uI := BO hk1; have s8 := BO (sW.out.trans hk1 (fun _ h => h.elim)); clear hk1 HR x0 x1 x2 xf)
 obtain ⟨x0, x1, x2, xf⟩ := fV (aA uI.out s7.out)
 obtain ⟨t0, tf⟩ := aM (aA uI.out sZ.out)
 have ug := BO (Rd.kept HC.out uI.out.drew (fun _ _ h => h))
 by_cases h1 : 0 ≤ i
 ·by_cases h2 : i < (c.length : Int)
  ·obtain ⟨k, rfl⟩ : ∃ k : Nat, i = (k : Int) := ⟨i.toNat, by omega⟩
   obtain ⟨y, hy⟩ : ∃ y, c[k]? = some y := ⟨c[k]'(by omega), List.getElem?_eq_getElem _⟩
   obtain ⟨cg, cog, rfl⟩ := gJ ug.out hy rfl
   have hcc := fo ug.out hy
   have hg : c.getD ((k : Int)).toNat false = y := by rw [List.getD_eq_getElem?_getD, Int.toNat_natCast, hy]; rfl
   have HV := BO (show bE c (k : Int) v = (rv && decide (v.t = y)) by unfold bE; rw [hg, BD.out, decide_eq_true h1, decide_eq_true h2]; cases rv <;> cases decide (v.t = y) <;> rfl)
   generalize hN : c.length = N at *
   clear hy hg hN HC ug
   cases rv
   ·refine af [(0, false, 999), (1, false, 999), (2, false, 999), (3, false, 999), (4, false, 999), (5, false, 999), (6, false, 999), (7, false, 999), (8, false, 999), (9, false, 999), (10, false, 999), (11, false, 999), (12, false, 999), (13, false, 999), (14, false, 999), (15, false, 999), (16, false, 999), (17, false, 999), (18, false, 999), (19, false, 999), (20, false, 999), (21, false, 999), (22, false, 999)] (by kernel_rfl) (by kernel_rfl) ?_
    iterate 3 (refine ae rfl rfl (fun K hK => ?_); go_simp; refine hK _ ?_; clear hK K)
    iterate 5 (first | (refine am rfl rfl ?_; simp only [Act.put, BP, BQ, BR, BS, BT, BU]) | (refine ak rfl rfl (fun K hK => ?_); go_simp; refine hK _ ?_; clear hK K))
    iterate 2 (refine ae rfl rfl (fun K hK => ?_); go_simp; refine hK _ ?_; clear hK K)
    first | (refine am rfl rfl ?_; simp only [Act.put, BP, BQ, BR, BS, BT, BU]) | (refine ak rfl rfl (fun K hK => ?_); go_simp; refine hK _ ?_; clear hK K)
    iterate 2 (refine ae rfl rfl (fun K hK => ?_); go_simp; refine hK _ ?_; clear hK K)
    iterate 8 (first | (refine am rfl rfl ?_; simp only [Act.put, BP, BQ, BR, BS, BT, BU]) | (refine ak rfl rfl (fun K hK => ?_); go_simp; refine hK _ ?_; clear hK K))
    iterate 2 (refine ae rfl rfl (fun K hK => ?_); go_simp; refine hK _ ?_; clear hK K)
    refine ap ?_
    go_wp2_with fail
    go_ret
    exact ⟨by rw [tl.out, HV.out]; rfl, s8.out.drew⟩
   ·by_cases h3 : v.t = y
    ·subst h3
     refine af [(0, false, 999), (1, false, 999), (2, false, 999), (3, false, 999), (4, false, 999), (5, false, 999), (6, false, 999), (7, false, 999), (8, false, 999), (9, false, 999), (10, false, 999), (11, false, 999), (12, false, 999), (13, false, 999), (14, false, 999), (15, false, 999), (16, false, 999), (17, false, 999), (18, false, 999), (19, false, 999), (20, false, 999), (21, false, 999), (22, false, 999)] (by kernel_rfl) (by kernel_rfl) ?_
     iterate 3 (refine ae rfl rfl (fun K hK => ?_); go_simp; refine hK _ ?_; clear hK K)
     iterate 5 (first | (refine am rfl rfl ?_; simp only [Act.put, BP, BQ, BR, BS, BT, BU]) | (refine ak rfl rfl (fun K hK => ?_); go_simp; refine hK _ ?_; clear hK K))
     iterate 2 (refine ae rfl rfl (fun K hK => ?_); go_simp; refine hK _ ?_; clear hK K)
     first | (refine am rfl rfl ?_; simp only [Act.put, BP, BQ, BR, BS, BT, BU]) | (refine ak rfl rfl (fun K hK => ?_); go_simp; refine hK _ ?_; clear hK K)
     iterate 2 (refine ae rfl rfl (fun K hK => ?_); go_simp; refine hK _ ?_; clear hK K)
     iterate 8 (first | (refine am rfl rfl ?_; simp only [Act.put, BP, BQ, BR, BS, BT, BU]) | (refine ak rfl rfl (fun K hK => ?_); go_simp; refine hK _ ?_; clear hK K))
     iterate 2 (refine ae rfl rfl (fun K hK => ?_); go_simp; refine hK _ ?_; clear hK K)
     refine ap ?_
     go_wp2_with fail
     go_ret
     exact ⟨by rw [tl.out, HV.out]; simp, s8.out.drew⟩
    ·obtain rfl : y = !v.t := by cases y <;> cases h : v.t <;> simp_all
     refine af [(0, false, 999), (1, false, 999), (2, false, 999), (3, false, 999), (4, false, 999), (5, false, 999), (6, false, 999), (7, false, 999), (8, false, 999), (9, false, 999), (10, false, 999), (11, false, 999), (12, false, 999), (13, false, 999), (14, false, 999), (15, false, 999), (16, false, 999), (17, false, 999), (18, false, 999), (19, false, 999), (20, false, 999), (21, false, 999), (22, false, 999)] (by kernel_rfl) (by kernel_rfl) ?_
     iterate 3 (refine ae rfl rfl (fun K hK => ?_); go_simp; refine hK _ ?_; clear hK K)
     iterate 5 (first | (refine am rfl rfl ?_; simp only [Act.put, BP, BQ, BR, BS, BT, BU]) | (refine ak rfl rfl (fun K hK => ?_); go_simp; refine hK _ ?_; clear hK K))
     iterate 2 (refine ae rfl rfl (fun K hK => ?_); go_simp; refine hK _ ?_; clear hK K)
     first | (refine am rfl rfl ?_; simp only [Act.put, BP, BQ, BR, BS, BT, BU]) | (refine ak rfl rfl (fun K hK => ?_); go_simp; refine hK _ ?_; clear hK K)
     iterate 2 (refine ae rfl rfl (fun K hK => ?_); go_simp; refine hK _ ?_; clear hK K)
     iterate 8 (first | (refine am rfl rfl ?_; simp only [Act.put, BP, BQ, BR, BS, BT, BU]) | (refine ak rfl rfl (fun K hK => ?_); go_simp; refine hK _ ?_; clear hK K))
     iterate 2 (refine ae rfl rfl (fun K hK => ?_); go_simp; refine hK _ ?_; clear hK K)
     refine ap ?_
     go_wp2_with fail
     go_ret
     exact ⟨by rw [tl.out, HV.out]; simp, s8.out.drew⟩
  ·have HV := BO (show bE c i v = false by unfold bE; rw [decide_eq_false h2]; simp)
   clear ug
   refine af [(0, false, 999), (1, false, 999), (2, false, 999), (3, false, 999), (4, false, 999), (5, false, 999), (6, false, 999), (7, false, 999), (8, false, 999), (9, false, 999), (10, false, 999), (11, false, 999), (12, false, 999), (13, false, 999), (14, false, 999), (15, false, 999), (16, false, 999), (17, false, 999), (18, false, 999), (19, false, 999), (20, false, 999), (21, false, 999), (22, false, 999)] (by kernel_rfl) (by kernel_rfl) ?_
   iterate 3 (refine ae rfl rfl (fun K hK => ?_); go_simp; refine hK _ ?_; clear hK K)
   iterate 5 (first | (refine am rfl rfl ?_; simp only [Act.put, BP, BQ, BR, BS, BT, BU]) | (refine ak rfl rfl (fun K hK => ?_); go_simp; refine hK _ ?_; clear hK K))
   iterate 2 (refine ae rfl rfl (fun K hK => ?_); go_simp; refine hK _ ?_; clear hK K)
   first | (refine am rfl rfl ?_; simp only [Act.put, BP, BQ, BR, BS, BT, BU]) | (refine ak rfl rfl (fun K hK => ?_); go_simp; refine hK _ ?_; clear hK K)
   iterate 2 (refine ae rfl rfl (fun K hK => ?_); go_simp; refine hK _ ?_; clear hK K)
   iterate 8 (first | (refine am rfl rfl ?_; simp only [Act.put, BP, BQ, BR, BS, BT, BU]) | (refine ak rfl rfl (fun K hK => ?_); go_simp; refine hK _ ?_; clear hK K))
   iterate 2 (refine ae rfl rfl (fun K hK => ?_); go_simp; refine hK _ ?_; clear hK K)
   refine ap ?_
   go_wp2_with fail
   go_ret
   exact ⟨by rw [tl.out, HV.out]; rfl, s8.out.drew⟩
 ·have HV := BO (show bE c i v = false by unfold bE; rw [decide_eq_false h1]; simp)
  clear ug
  refine af [(0, false, 999), (1, false, 999), (2, false, 999), (3, false, 999), (4, false, 999), (5, false, 999), (6, false, 999), (7, false, 999), (8, false, 999), (9, false, 999), (10, false, 999), (11, false, 999), (12, false, 999), (13, false, 999), (14, false, 999), (15, false, 999), (16, false, 999), (17, false, 999), (18, false, 999), (19, false, 999), (20, false, 999), (21, false, 999), (22, false, 999)] (by kernel_rfl) (by kernel_rfl) ?_
  iterate 3 (refine ae rfl rfl (fun K hK => ?_); go_simp; refine hK _ ?_; clear hK K)
  iterate 5 (first | (refine am rfl rfl ?_; simp only [Act.put, BP, BQ, BR, BS, BT, BU]) | (refine ak rfl rfl (fun K hK => ?_); go_simp; refine hK _ ?_; clear hK K))
  iterate 2 (refine ae rfl rfl (fun K hK => ?_); go_simp; refine hK _ ?_; clear hK K)
  first | (refine am rfl rfl ?_; simp only [Act.put, BP, BQ, BR, BS, BT, BU]) | (refine ak rfl rfl (fun K hK => ?_); go_simp; refine hK _ ?_; clear hK K)
  iterate 2 (refine ae rfl rfl (fun K hK => ?_); go_simp; refine hK _ ?_; clear hK K)
  iterate 8 (first | (refine am rfl rfl ?_; simp only [Act.put, BP, BQ, BR, BS, BT, BU]) | (refine ak rfl rfl (fun K hK => ?_); go_simp; refine hK _ ?_; clear hK K))
  iterate 2 (refine ae rfl rfl (fun K hK => ?_); go_simp; refine hK _ ?_; clear hK K)
  refine ap ?_
  go_wp2_with fail
  go_ret
  exact ⟨by rw [tl.out, HV.out]; rfl, s8.out.drew⟩
def fT (es : List PredE) (j : Nat) : Nat := 1 + ((es.take j).flatMap (fun e => e.p.nodes)).length
theorem mK {es : List PredE} {j : Nat} {e : PredE} (he : es[j]? = some e) : fT es (j + 1) = fT es j + e.p.nodes.length := by
 unfold fT
 rw [List.take_add_one, he, List.flatMap_append, List.length_append]
 simp
 omega
theorem qS (es : List PredE) (j : Nat) : fT es j ≤ 1 + (es.flatMap (fun e => e.p.nodes)).length := by
 unfold fT
 have h2 : es.flatMap (fun e => e.p.nodes) = (es.take j).flatMap (fun e => e.p.nodes) ++ (es.drop j).flatMap (fun e => e.p.nodes) := by rw [← List.flatMap_append, List.take_append_drop]
 rw [h2, List.length_append]
 omega
theorem rE : ∀ (p : PredT) (x : PredE) (w : World), x.p = p → p.nodes.length ≤ 1000000 → PredsRd w (.slice x.la x.ln x.lc) x.subs →
  Calls Tryz.prog 174 #[.agg x.cells.toArray] w fun e w' => e = .returned (.int .i64 (p.nodes.length : Int)) ∧ Kept (fun _ => False) w w' := by
 refine PredT.ind fun op col v w0 pl ih x w hx hn hat => ?_
 have hl : x.subs = pl := by unfold PredE.p at hx; cases hx; rfl
 obtain ⟨W1, hW1, hk1, hb1⟩ : ∃ W, W = w.alloc (.cells x.cells.toArray tPr) ∧ Kept (fun _ => False) w W ∧ W.heap[w.heap.size]? = some (.cells x.cells.toArray tPr (0, 0)) := ⟨_, rfl, (Kept.refl _ _).alloc _, aB _ _⟩
 have hat1 := hat.kept hk1
 obtain ⟨es, hrd, hsub, hes⟩ : ∃ es : List PredE, Rd W1 9 (.slice x.la x.ln x.lc) es.length (es.flatMap PredE.cells) ∧ x.subs = es.map PredE.p ∧ ∀ e ∈ es, PredsRd W1 (.slice e.la e.ln e.lc) e.subs := by
  generalize x.subs = xs at hat1
  cases hat1 with
  | mk _ es he hes => exact ⟨es, he, rfl, hes⟩
 have hne : (PredT.mk op col v w0 pl).nodes.length = 1 + (es.flatMap (fun e => e.p.nodes)).length := by rw [gd, ← hl, hsub, List.flatMap_map, List.length_cons]; omega
 have uU := BO hne
 rw [hne] at hn
 obtain ⟨_, _, ra, rc, hav, _⟩ := id hrd
 have hln : x.ln = es.length := (Value.slice.inj hav).2.1
 have hml := hrd.2.1
 unfold maxLen at hml
 obtain ⟨N, hN⟩ : ∃ N, es.length = N := ⟨_, rfl⟩
 rw [hln, hN] at hrd
 rw [hN] at hml
 have vT := BO (show ∀ (j : Nat) (e : PredE) (W : World), es[j]? = some e → Kept (fun _ => False) W1 W → Calls Tryz.prog 174 #[.agg e.cells.toArray] W fun r w' => r = .returned (.int .i64 (e.p.nodes.length : Int)) ∧ Kept (fun _ => False) W w' from
  fun j e W he k => ih e.p (by rw [← hl, hsub]; exact List.mem_map_of_mem (List.mem_of_getElem? he)) e W rfl (by
   have h1 : e.p.nodes.length ≤ (es.flatMap (fun e => e.p.nodes)).length := by
    obtain ⟨a, b, rfl⟩ := List.append_of_mem (List.mem_of_getElem? he)
    simp
    omega
   omega) ((hes e (List.mem_of_getElem? he)).kept k))
 have s5 := BO hrd
 have HN := BO hN
 have tE := BO (show x.ln = N by rw [hln, hN])
 have sR := BO hW1
 have sW := BO hk1
 have sZ := BO hb1
 obtain ⟨rr, hrr⟩ : ∃ rr : Int, rr = ((PredT.mk op col v w0 pl).nodes.length : Int) := ⟨_, rfl⟩
 rw [← hrr]
 have tl := BO hrr
 clear ih hx hat hat1 hl hsub hes hrd hav hln hne hN hW1 hk1 hb1 hrr
 go_enter Tryz.func174, Tryz.ntmps174
 go_upto_region 1 with fail
 rw [← sR.out]
 clear sR
 generalize w.heap.size = bx at *
 obtain ⟨la, hla⟩ : ∃ la, la = x.la := ⟨_, rfl⟩
 obtain ⟨lc, hlc⟩ : ∃ lc, lc = x.lc := ⟨_, rfl⟩
 have HB := BO (show ∀ W, Kept (fun _ => False) W1 W → W.cell? ⟨bx, 8, none⟩ = some (.slice la N lc) from fun W k => by
  obtain ⟨_, _, _, _, _, _, _, _, h8⟩ := aK (aA k sZ.out)
  rw [tE.out, ← hla, ← hlc] at h8
  exact h8)
 rw [← hla, ← hlc] at s5
 clear hla hlc
 go_wp2_with fail
 go_loopw [3, 4] (fun u i wr => ∃ j : Nat, i = .int .i64 j ∧ u = .int .i64 (fT es j : Int) ∧ j ≤ N ∧ Kept (fun _ => False) W1 wr) (fun _ i _ => N - (intOf i).toNat)
 case atStart => exact ⟨0, rfl, rfl, by omega, Kept.refl _ _⟩
 case round =>
  obtain ⟨j, rfl, rfl, hj, hk⟩ := hrel
  have HK := BO hk
  have x8 := HB.out wr hk
  clear hk
  by_cases hlt : j < N
  ·have hii : (j : Int) < (N : Int) := by omega
   obtain ⟨e, he⟩ : ∃ e, es[j]? = some e := ⟨es[j]'(by rw [HN.out]; exact hlt), List.getElem?_eq_getElem _⟩
   obtain ⟨g, og, rfl, hrng⟩ := aD PredE.len (Rd.kept s5.out HK.out (fun _ _ h => h)) he HN.out
   have HL := BO (bu hrng)
   have HC := BO (vT.out j e wr he HK.out)
   have vI := BO (mK he)
   have hb := qS es (j + 1)
   rw [vI.out] at hb
   clear he hrng
   generalize fT es j = a at *
   generalize e.p.nodes.length = b at *
   have hw : IntKind.i64.wrap ((a : Int) + (b : Int)) = (a : Int) + (b : Int) := IntWalk.i64_in _ (by omega)
   go_wp2_with (first | (refine ag rfl _ _ rfl _ _ rfl _ HL.out ?_) | (go_at_call 174; refine HC.out.mono ?_; rintro e4 w4 ⟨rfl, hk4⟩; have ud := BO (HK.out.trans hk4 (fun _ h => h.elim)); clear hk4 HC HL))
   go_roundw
   case rel => exact ⟨j + 1, by go_num, by rw [vI.out]; go_num, by omega, ud.out⟩
   case measure => simp [intOf]; omega
  ·have hii : ¬ ((j : Int) < (N : Int)) := by omega
   have HT := BO (show fT es j = 1 + (es.flatMap (fun e => e.p.nodes)).length by unfold fT; rw [List.take_of_length_le (by rw [HN.out]; omega)])
   go_wp2_with fail
   go_ret
   exact ⟨by rw [tl.out, uU.out, ← HT.out]; rfl, sW.out.trans HK.out (fun _ h => h.elim)⟩
end Go.Proofs.YtgljdkjepdknnaaGreatDoor
