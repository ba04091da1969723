/- Joined texts: The document's Right, May of a table, Fits (ratlineref01, ratlineref02). (printed by genlk.py) The document's Size, part, May of predicates (ratlineref03). (printed by genrm2.py) -/
import Derived.Test.YtgljdkjepdknnaaGreatDoorML22
import Derived.Test.YtgljdkjepdknnaaGreatDoorML24
set_option maxHeartbeats 64000000
namespace Go.Proofs.YtgljdkjepdknnaaGreatDoor
open Go.ChangeShapes Go.WideShapes Go.ChangeAt Go.RowKit
set_option maxRecDepth 100000
set_option linter.unusedSimpArgs false
theorem sM (n : Int) (s : ByteArray) : bi ⟨false, n, s⟩ = s.toList.isEmpty := by
 unfold bi
 simp only [Bool.false_eq_true, if_false]
 by_cases h : s = ⟨#[]⟩
 ·subst h
  rw [ByteArray.toList_eq]
  rfl
 ·rw [decide_eq_false h, ByteArray.toList_eq]
  cases he : s.data.toList.isEmpty with
  | false => rfl
  | true =>
   exfalso
   apply h
   obtain ⟨⟨x⟩⟩ := s
   cases x with
   | nil => rfl
   | cons a b => simp at he
theorem jQ (v : Val) (w : World) : Calls Tryz.prog 151 #[v.v] w fun e w' => e = .returned (.bool (bi v)) ∧ Kept (fun _ => False) w w' := by
 obtain ⟨t, n, s⟩ := v
 have hk : Kept (fun _ => False) w (w.alloc (.cells #[.bool t, .int .i64 n, .string s] 31)) := (Kept.refl _ _).alloc _
 have HK := Eh hk
 clear hk
 cases t
 ·have E := Eh (sM n s)
  go_enter Tryz.func151, Tryz.ntmps151
  go_wp2_with fail
  go_ret
  exact ⟨by rw [E.out]; rfl, HK.out⟩
 ·by_cases h : n = 0
  ·subst h
   by_cases hs : (s.size : Int) ≤ 12
   ·have E := Eh (show bi ⟨true, 0, s⟩ = true by simp [bi]; omega)
    go_enter Tryz.func151, Tryz.ntmps151
    go_wp2_with fail
    go_ret
    exact ⟨by rw [E.out]; rfl, HK.out⟩
   ·have E := Eh (show bi ⟨true, 0, s⟩ = false by simp [bi]; omega)
    go_enter Tryz.func151, Tryz.ntmps151
    go_wp2_with fail
    go_ret
    exact ⟨by rw [E.out]; rfl, HK.out⟩
  ·have hb : (n == 0) = false := by simpa using h
   have E := Eh (show bi ⟨true, n, s⟩ = false by simp [bi, h])
   go_enter Tryz.func151, Tryz.ntmps151
   go_wp2_with fail
   go_ret
   exact ⟨by rw [E.out]; rfl, HK.out⟩
def kv (c : List Bool) : Bool := gm c
theorem nF {w : World} {cv : Value} {c : List Bool} (h : du w cv c) : Calls Tryz.prog 150 #[.agg #[cv]] w fun e w' => e = .returned (.bool (kv c)) ∧ Kept (fun _ => False) w w' := by
 obtain ⟨-, m1, ao, cap, rfl, -⟩ := h
 have HK := Eh (show Kept (fun _ => False) w (w.alloc (.cells #[.slice ao c.length cap] dO)) from (Kept.refl _ _).alloc _)
 by_cases h1 : 1 ≤ c.length
 ·by_cases h2 : c.length ≤ 4
  ·have HM := Eh (show kv c = true by simp [kv, gm, h1, h2])
   have e1 : ((c.length : Int) ≥ 1) := by omega
   have e2 : ((c.length : Int) ≤ 4) := by omega
   go_enter Tryz.func150, Tryz.ntmps150
   go_wp2_with fail
   go_ret
   rw [HM.out]
   exact ⟨rfl, HK.out⟩
  ·have HM := Eh (show kv c = false by simp [kv, gm, h2])
   have e1 : ((c.length : Int) ≥ 1) := by omega
   have e2 : ¬ ((c.length : Int) ≤ 4) := by omega
   go_enter Tryz.func150, Tryz.ntmps150
   go_wp2_with fail
   go_ret
   rw [HM.out]
   exact ⟨rfl, HK.out⟩
 ·have HM := Eh (show kv c = false by simp [kv, gm, h1])
  have e1 : ¬ ((c.length : Int) ≥ 1) := by omega
  go_enter Tryz.func150, Tryz.ntmps150
  go_wp2_with fail
  go_ret
  rw [HM.out]
  exact ⟨rfl, HK.out⟩
theorem tG {w : World} {cv rv : Value} {c : List Bool} {r : List Val} (hc : du w cv c) (hr : da w rv r) : Calls Tryz.prog 173 #[.agg #[cv], rv] w fun e w' => e = .returned (.bool (eS c r)) ∧ Kept (fun _ => False) w w' := by
 have hk1 : Kept (fun _ => False) w (w.alloc (.cells #[cv] dO)) := (Kept.refl _ _).alloc _
 have hb1 : (w.alloc (.cells #[cv] dO)).heap[w.heap.size]? = some (.cells #[cv] dO (0, 0)) := aC w _
 have HC := Eh (Rd.kept hc hk1 (fun _ _ h => h))
 have HR := Eh (Rd.kept hr hk1 (fun _ _ h => h))
 have vd := Eh hk1
 have vj := Eh hb1
 obtain ⟨-, m1, co, ccap, rfl, -⟩ := hc
 obtain ⟨-, m2, ro, rcap, rfl, -⟩ := hr
 clear hk1 hb1
 go_enter Tryz.func173, Tryz.ntmps173
 go_upto_region 1 with (fail)
 obtain ⟨W, hW⟩ : ∃ W, W = w.alloc (.cells #[.slice co c.length ccap] dO) := ⟨_, rfl⟩
 rw [← hW] at HC HR vd vj ⊢
 generalize w.heap.size = bt at vj ⊢
 clear hW
 obtain ⟨b0, bf⟩ := aK vj.out
 have zB := Eh (nF HC.out)
 cases hm : gm c
 ·have HM := Eh (show kv c = false from hm)
  have HF := Eh (show eS c r = false by simp [eS, hm])
  clear hm
  go_wp2_with (go_at_call 150; refine zB.out.mono ?_; rw [HM.out]; rintro e1 w1 ⟨rfl, hk2⟩; have vp := Eh hk2; clear hk2 b0 bf)
  go_ret
  rw [HF.out]
  exact ⟨rfl, vd.out.trans vp.out (fun _ h => h.elim)⟩
 have HM := Eh (show kv c = true from hm)
 by_cases hl : r.length = c.length
 ·obtain ⟨N, hN⟩ : ∃ N, r.length = N := ⟨_, rfl⟩
  have HF := Eh (show eS c r = ep c r N by unfold eS; rw [hm, decide_eq_true hl, hN]; rfl)
  have HN := Eh hN
  have hcn : c.length = N := by omega
  have BE := Eh hcn
  rw [hcn] at HC zB vj b0 m1 ⊢
  rw [hN] at HR m2 ⊢
  unfold maxLen at m1 m2
  clear hm hl hN hcn
  go_upto_region 4 with (go_at_call 150; refine zB.out.mono ?_; rw [HM.out]; rintro e1 w1 ⟨rfl, hk2⟩; have vp := Eh hk2; clear hk2 b0 bf; have hb1 := (vp.out.block _ (aH vj.out) (fun h => h)).trans vj.out; obtain ⟨b0, bf⟩ := aK hb1; have vm := Eh hb1; clear hb1)
  have wC := Eh (Rd.kept HC.out vp.out (fun _ _ h => h))
  have vZ := Eh (Rd.kept HR.out vp.out (fun _ _ h => h))
  have vD := Eh (vd.out.trans vp.out (fun _ h => h.elim))
  clear HC HR vj zB HM vd vp
  go_wp2_with fail
  clear b0 bf
  go_loopw [6] (fun idx wr => ∃ j : Nat, idx = .int .i64 j ∧ j ≤ N ∧ ep c r j = true ∧ Kept (fun _ => False) w1 wr) (fun idx _ => N - (intOf idx).toNat)
  case atStart => exact ⟨0, rfl, Nat.zero_le _, by simp [ep], Kept.refl _ _⟩
  case round =>
   obtain ⟨j, rfl, hj, hno, hkr⟩ := hrel
   by_cases hlt : j < N
   ·obtain ⟨x, hx⟩ : ∃ x, r[j]? = some x := ⟨r[j]'(by rw [HN.out]; exact hlt), List.getElem?_eq_getElem _⟩
    obtain ⟨b, hb⟩ : ∃ b, c[j]? = some b := ⟨c[j]'(by rw [BE.out]; exact hlt), List.getElem?_eq_getElem _⟩
    have hrr := Rd.kept vZ.out hkr (fun _ _ h => h)
    obtain ⟨rg, rog, rfl⟩ := kC hrr hx HN.out
    obtain ⟨cg, cog, rfl⟩ := iA wC.out hb BE.out
    obtain ⟨y0, y1, y2⟩ := gh hrr hx
    have BQ := Eh hkr
    have xd := Eh (lm hx hb)
    have vT := Eh hno
    have Bi := Eh hb
    have HX := Eh hx
    have hib : (j : Int) < (N : Int) := by omega
    have Bp := Eh (jQ x wr)
    clear hx hb hrr hno hkr
    cases hv : bi x
    ·have wu := Eh (show ep c r N = false from gr (show j + 1 ≤ N by omega) (by rw [xd.out, hv]; simp))
     have HV := Eh hv
     clear hv
     go_upto_region 8 with (go_at_call 151; refine Bp.out.mono ?_; rw [HV.out]; rintro e4 w4 ⟨rfl, hk5⟩; have wN := Eh ((vD.out.trans BQ.out (fun _ h => h.elim)).trans hk5 (fun _ h => h.elim)); clear hk5 y0 y1 y2)
     go_quiet (fail)
     go_wp2_with fail
     go_ret
     rw [HF.out, wu.out]
     exact ⟨rfl, wN.out.trans ((Kept.refl (fun _ => False) w4).drewN _) (fun _ h => h.elim)⟩
    ·have HV := Eh hv
     go_upto_region 8 with (go_at_call 151; refine Bp.out.mono ?_; rw [HV.out]; rintro e4 w4 ⟨rfl, hk5⟩; have wN := Eh (BQ.out.trans hk5 (fun _ h => h.elim)); clear hk5 y0 y1 y2)
     obtain ⟨b0, bf⟩ := aK ((wN.out.block _ (aH vm.out) (fun h => h)).trans vm.out)
     have hcc := fZ (Rd.kept wC.out wN.out (fun _ _ h => h)) Bi.out
     obtain ⟨y0, y1, y2⟩ := gh (Rd.kept vZ.out wN.out (fun _ _ h => h)) HX.out
     by_cases hxt : x.t = b
     ·subst hxt
      have wu := Eh (show ep c r (j + 1) = true by rw [xd.out, hv, vT.out]; simp)
      clear hv
      go_quiet (fail)
      go_wp2_with fail
      go_roundw
      case rel => exact ⟨j + 1, by go_num, by omega, wu.out, wN.out.trans ((Kept.refl (fun _ => False) w4).drewN _) (fun _ h => h.elim)⟩
      case measure => simp [intOf]; omega
     ·obtain rfl : b = !x.t := by cases b <;> cases h : x.t <;> simp_all
      have wu := Eh (show ep c r N = false from gr (show j + 1 ≤ N by omega) (by rw [xd.out]; simp))
      clear hxt hv
      go_quiet (fail)
      go_wp2_with fail
      go_ret
      rw [HF.out, wu.out]
      exact ⟨rfl, (vD.out.trans wN.out (fun _ h => h.elim)).trans ((Kept.refl (fun _ => False) w4).drewN _) (fun _ h => h.elim)⟩
   ·obtain rfl : j = N := by omega
    have wu := Eh hno
    have Cu := Eh (vD.out.trans hkr (fun _ h => h.elim))
    clear hno hkr
    go_wp2_with fail
    go_ret
    rw [HF.out, wu.out]
    exact ⟨rfl, Cu.out⟩
 ·have HF := Eh (show eS c r = false by unfold eS; rw [hm, decide_eq_false hl]; rfl)
  have hl' : ¬ ((r.length : Int) = (c.length : Int)) := by omega
  clear hm hl
  go_wp2_with (go_at_call 150; refine zB.out.mono ?_; rw [HM.out]; rintro e1 w1 ⟨rfl, hk2⟩; have vp := Eh hk2; clear hk2 b0 bf; obtain ⟨b0, bf⟩ := aK ((vp.out.block _ (aH vj.out) (fun h => h)).trans vj.out))
  go_ret
  rw [HF.out]
  exact ⟨rfl, vd.out.trans vp.out (fun _ h => h.elim)⟩
theorem fl {w : World} {cv : Value} {c : List Bool} (i : Int) (v : Val) (hc : du w cv c) :
  Calls Tryz.prog 195 #[.agg #[cv], .int .i64 i, v.v] w fun e w' => e = .returned (.bool (bP c i v)) ∧ Kept (fun _ => False) w w' := by
 obtain ⟨W1, hW1, hk1, hb1, hb2⟩ := iO w #[cv] #[.bool v.t, .int .i64 v.n, .string v.s] dO tV
 have HC := Eh (Rd.kept hc hk1 (fun _ _ h => h))
 obtain ⟨_, m1, ao, cap, rfl, _⟩ := hc
 have uW := Eh hW1
 have vd := Eh hk1
 have vj := Eh hb1
 have vm := Eh hb2
 have HR := Eh (jQ v W1)
 obtain ⟨rr, hrr⟩ : ∃ rr, rr = bP c i v := ⟨_, rfl⟩
 rw [← hrr]
 have vA := Eh hrr
 obtain ⟨rv, hrv⟩ : ∃ rv, bi v = rv := ⟨_, rfl⟩
 rw [hrv] at HR
 have DP := Eh hrv
 clear hW1 hk1 hb1 hb2 hrr hrv
 unfold maxLen at m1
 go_enter Tryz.func195, Tryz.ntmps195
 go_upto_region 1 with fail
 rw [← uW.out]
 clear uW
 generalize w.heap.size + 1 = b2 at *
 generalize w.heap.size = b1 at *
 obtain ⟨x0, x1, x2, xf⟩ := gG vm.out
 go_upto_region 2 with (go_at_call 151; refine HR.out.mono ?_; rintro e1 w1 ⟨rfl, hk1⟩; have xe := Eh hk1; have vp := Eh (vd.out.trans hk1 (fun _ h => h.elim)); clear hk1 HR x0 x1 x2 xf)
 obtain ⟨x0, x1, x2, xf⟩ := gG (aB xe.out vm.out)
 obtain ⟨t0, tf⟩ := aK (aB xe.out vj.out)
 have wC := Eh (Rd.kept HC.out xe.out.drew (fun _ _ h => h))
 by_cases h1 : 0 ≤ i
 ·by_cases h2 : i < (c.length : Int)
  ·obtain ⟨k, rfl⟩ : ∃ k : Nat, i = (k : Int) := ⟨i.toNat, by omega⟩
   obtain ⟨y, hy⟩ : ∃ y, c[k]? = some y := ⟨c[k]'(by omega), List.getElem?_eq_getElem _⟩
   obtain ⟨cg, cog, rfl⟩ := iA wC.out hy rfl
   have hcc := fZ wC.out hy
   have hg : c.getD ((k : Int)).toNat false = y := by rw [List.getD_eq_getElem?_getD, Int.toNat_natCast, hy]; rfl
   have HV := Eh (show bP c (k : Int) v = (rv && decide (v.t = y)) by unfold bP; rw [hg, DP.out, decide_eq_true h1, decide_eq_true h2]; cases rv <;> cases decide (v.t = y) <;> rfl)
   generalize hN : c.length = N at *
   clear hy hg hN HC wC
   cases rv
   ·refine ag [(0, false, 999), (1, false, 999), (2, false, 999), (3, false, 999), (4, false, 999), (5, false, 999), (6, false, 999), (7, false, 999), (8, false, 999), (9, false, 999), (10, false, 999), (11, false, 999), (12, false, 999), (13, false, 999), (14, false, 999), (15, false, 999), (16, false, 999), (17, false, 999), (18, false, 999), (19, false, 999), (20, false, 999), (21, false, 999), (22, false, 999)] (by kernel_rfl) (by kernel_rfl) ?_
    iterate 3 (refine af rfl rfl (fun K hK => ?_); go_simp; refine hK _ ?_; clear hK K)
    iterate 5 (first | (refine aq rfl rfl ?_; simp only [Act.put, Ei, Ej, Ek, El, Em, En]) | (refine am rfl rfl (fun K hK => ?_); go_simp; refine hK _ ?_; clear hK K))
    iterate 2 (refine af rfl rfl (fun K hK => ?_); go_simp; refine hK _ ?_; clear hK K)
    first | (refine aq rfl rfl ?_; simp only [Act.put, Ei, Ej, Ek, El, Em, En]) | (refine am rfl rfl (fun K hK => ?_); go_simp; refine hK _ ?_; clear hK K)
    iterate 2 (refine af rfl rfl (fun K hK => ?_); go_simp; refine hK _ ?_; clear hK K)
    iterate 8 (first | (refine aq rfl rfl ?_; simp only [Act.put, Ei, Ej, Ek, El, Em, En]) | (refine am rfl rfl (fun K hK => ?_); go_simp; refine hK _ ?_; clear hK K))
    iterate 2 (refine af rfl rfl (fun K hK => ?_); go_simp; refine hK _ ?_; clear hK K)
    refine ar ?_
    go_wp2_with fail
    go_ret
    exact ⟨by rw [vA.out, HV.out]; rfl, vp.out.drew⟩
   ·by_cases h3 : v.t = y
    ·subst h3
     refine ag [(0, false, 999), (1, false, 999), (2, false, 999), (3, false, 999), (4, false, 999), (5, false, 999), (6, false, 999), (7, false, 999), (8, false, 999), (9, false, 999), (10, false, 999), (11, false, 999), (12, false, 999), (13, false, 999), (14, false, 999), (15, false, 999), (16, false, 999), (17, false, 999), (18, false, 999), (19, false, 999), (20, false, 999), (21, false, 999), (22, false, 999)] (by kernel_rfl) (by kernel_rfl) ?_
     iterate 3 (refine af rfl rfl (fun K hK => ?_); go_simp; refine hK _ ?_; clear hK K)
     iterate 5 (first | (refine aq rfl rfl ?_; simp only [Act.put, Ei, Ej, Ek, El, Em, En]) | (refine am rfl rfl (fun K hK => ?_); go_simp; refine hK _ ?_; clear hK K))
     iterate 2 (refine af rfl rfl (fun K hK => ?_); go_simp; refine hK _ ?_; clear hK K)
     first | (refine aq rfl rfl ?_; simp only [Act.put, Ei, Ej, Ek, El, Em, En]) | (refine am rfl rfl (fun K hK => ?_); go_simp; refine hK _ ?_; clear hK K)
     iterate 2 (refine af rfl rfl (fun K hK => ?_); go_simp; refine hK _ ?_; clear hK K)
     iterate 8 (first | (refine aq rfl rfl ?_; simp only [Act.put, Ei, Ej, Ek, El, Em, En]) | (refine am rfl rfl (fun K hK => ?_); go_simp; refine hK _ ?_; clear hK K))
     iterate 2 (refine af rfl rfl (fun K hK => ?_); go_simp; refine hK _ ?_; clear hK K)
     refine ar ?_
     go_wp2_with fail
     go_ret
     exact ⟨by rw [vA.out, HV.out]; simp, vp.out.drew⟩
    ·obtain rfl : y = !v.t := by cases y <;> cases h : v.t <;> simp_all
     refine ag [(0, false, 999), (1, false, 999), (2, false, 999), (3, false, 999), (4, false, 999), (5, false, 999), (6, false, 999), (7, false, 999), (8, false, 999), (9, false, 999), (10, false, 999), (11, false, 999), (12, false, 999), (13, false, 999), (14, false, 999), (15, false, 999), (16, false, 999), (17, false, 999), (18, false, 999), (19, false, 999), (20, false, 999), (21, false, 999), (22, false, 999)] (by kernel_rfl) (by kernel_rfl) ?_
     iterate 3 (refine af rfl rfl (fun K hK => ?_); go_simp; refine hK _ ?_; clear hK K)
     iterate 5 (first | (refine aq rfl rfl ?_; simp only [Act.put, Ei, Ej, Ek, El, Em, En]) | (refine am rfl rfl (fun K hK => ?_); go_simp; refine hK _ ?_; clear hK K))
     iterate 2 (refine af rfl rfl (fun K hK => ?_); go_simp; refine hK _ ?_; clear hK K)
     first | (refine aq rfl rfl ?_; simp only [Act.put, Ei, Ej, Ek, El, Em, En]) | (refine am rfl rfl (fun K hK => ?_); go_simp; refine hK _ ?_; clear hK K)
     iterate 2 (refine af rfl rfl (fun K hK => ?_); go_simp; refine hK _ ?_; clear hK K)
     iterate 8 (first | (refine aq rfl rfl ?_; simp only [Act.put, Ei, Ej, Ek, El, Em, En]) | (refine am rfl rfl (fun K hK => ?_); go_simp; refine hK _ ?_; clear hK K))
     iterate 2 (refine af rfl rfl (fun K hK => ?_); go_simp; refine hK _ ?_; clear hK K)
     refine ar ?_
     go_wp2_with fail
     go_ret
     exact ⟨by rw [vA.out, HV.out]; simp, vp.out.drew⟩
  ·have HV := Eh (show bP c i v = false by unfold bP; rw [decide_eq_false h2]; simp)
   clear wC
   refine ag [(0, false, 999), (1, false, 999), (2, false, 999), (3, false, 999), (4, false, 999), (5, false, 999), (6, false, 999), (7, false, 999), (8, false, 999), (9, false, 999), (10, false, 999), (11, false, 999), (12, false, 999), (13, false, 999), (14, false, 999), (15, false, 999), (16, false, 999), (17, false, 999), (18, false, 999), (19, false, 999), (20, false, 999), (21, false, 999), (22, false, 999)] (by kernel_rfl) (by kernel_rfl) ?_
   iterate 3 (refine af rfl rfl (fun K hK => ?_); go_simp; refine hK _ ?_; clear hK K)
   iterate 5 (first | (refine aq rfl rfl ?_; simp only [Act.put, Ei, Ej, Ek, El, Em, En]) | (refine am rfl rfl (fun K hK => ?_); go_simp; refine hK _ ?_; clear hK K))
   iterate 2 (refine af rfl rfl (fun K hK => ?_); go_simp; refine hK _ ?_; clear hK K)
   first | (refine aq rfl rfl ?_; simp only [Act.put, Ei, Ej, Ek, El, Em, En]) | (refine am rfl rfl (fun K hK => ?_); go_simp; refine hK _ ?_; clear hK K)
   iterate 2 (refine af rfl rfl (fun K hK => ?_); go_simp; refine hK _ ?_; clear hK K)
   iterate 8 (first | (refine aq rfl rfl ?_; simp only [Act.put, Ei, Ej, Ek, El, Em, En]) | (refine am rfl rfl (fun K hK => ?_); go_simp; refine hK _ ?_; clear hK K))
   iterate 2 (refine af rfl rfl (fun K hK => ?_); go_simp; refine hK _ ?_; clear hK K)
   refine ar ?_
   go_wp2_with fail
   go_ret
   exact ⟨by rw [vA.out, HV.out]; rfl, vp.out.drew⟩
 ·have HV := Eh (show bP c i v = false by unfold bP; rw [decide_eq_false h1]; simp)
  clear wC
  refine ag [(0, false, 999), (1, false, 999), (2, false, 999), (3, false, 999), (4, false, 999), (5, false, 999), (6, false, 999), (7, false, 999), (8, false, 999), (9, false, 999), (10, false, 999), (11, false, 999), (12, false, 999), (13, false, 999), (14, false, 999), (15, false, 999), (16, false, 999), (17, false, 999), (18, false, 999), (19, false, 999), (20, false, 999), (21, false, 999), (22, false, 999)] (by kernel_rfl) (by kernel_rfl) ?_
  iterate 3 (refine af rfl rfl (fun K hK => ?_); go_simp; refine hK _ ?_; clear hK K)
  iterate 5 (first | (refine aq rfl rfl ?_; simp only [Act.put, Ei, Ej, Ek, El, Em, En]) | (refine am rfl rfl (fun K hK => ?_); go_simp; refine hK _ ?_; clear hK K))
  iterate 2 (refine af rfl rfl (fun K hK => ?_); go_simp; refine hK _ ?_; clear hK K)
  first | (refine aq rfl rfl ?_; simp only [Act.put, Ei, Ej, Ek, El, Em, En]) | (refine am rfl rfl (fun K hK => ?_); go_simp; refine hK _ ?_; clear hK K)
  iterate 2 (refine af rfl rfl (fun K hK => ?_); go_simp; refine hK _ ?_; clear hK K)
  iterate 8 (first | (refine aq rfl rfl ?_; simp only [Act.put, Ei, Ej, Ek, El, Em, En]) | (refine am rfl rfl (fun K hK => ?_); go_simp; refine hK _ ?_; clear hK K))
  iterate 2 (refine af rfl rfl (fun K hK => ?_); go_simp; refine hK _ ?_; clear hK K)
  refine ar ?_
  go_wp2_with fail
  go_ret
  exact ⟨by rw [vA.out, HV.out]; rfl, vp.out.drew⟩
def gC (es : List PredE) (j : Nat) : Nat := 1 + ((es.take j).flatMap (fun e => e.p.nodes)).length
theorem oC {es : List PredE} {j : Nat} {e : PredE} (he : es[j]? = some e) : gC es (j + 1) = gC es j + e.p.nodes.length := by
 unfold gC
 rw [List.take_add_one, he, List.flatMap_append, List.length_append]
 simp
 omega
theorem rP (es : List PredE) (j : Nat) : gC es j ≤ 1 + (es.flatMap (fun e => e.p.nodes)).length := by
 unfold gC
 have h2 : es.flatMap (fun e => e.p.nodes) = (es.take j).flatMap (fun e => e.p.nodes) ++ (es.drop j).flatMap (fun e => e.p.nodes) := by rw [← List.flatMap_append, List.take_append_drop]
 rw [h2, List.length_append]
 omega
theorem ux : ∀ (p : PredT) (x : PredE) (w : World), x.p = p → p.nodes.length ≤ 1000000 → PredsRd w (.slice x.la x.ln x.lc) x.subs →
  Calls Tryz.prog 174 #[.agg x.cells.toArray] w fun e w' => e = .returned (.int .i64 (p.nodes.length : Int)) ∧ Kept (fun _ => False) w w' := by
 refine PredT.ind fun op col v w0 pl ih x w hx hn hat => ?_
 have hl : x.subs = pl := by unfold PredE.p at hx; cases hx; rfl
 obtain ⟨W1, hW1, hk1, hb1⟩ : ∃ W, W = w.alloc (.cells x.cells.toArray tPr) ∧ Kept (fun _ => False) w W ∧ W.heap[w.heap.size]? = some (.cells x.cells.toArray tPr (0, 0)) := ⟨_, rfl, (Kept.refl _ _).alloc _, aC _ _⟩
 have hat1 := hat.kept hk1
 obtain ⟨es, hrd, hsub, hes⟩ : ∃ es : List PredE, Rd W1 9 (.slice x.la x.ln x.lc) es.length (es.flatMap PredE.cells) ∧ x.subs = es.map PredE.p ∧ ∀ e ∈ es, PredsRd W1 (.slice e.la e.ln e.lc) e.subs := by
  generalize x.subs = xs at hat1
  cases hat1 with
  | mk _ es he hes => exact ⟨es, he, rfl, hes⟩
 have hne : (PredT.mk op col v w0 pl).nodes.length = 1 + (es.flatMap (fun e => e.p.nodes)).length := by rw [ij, ← hl, hsub, List.flatMap_map, List.length_cons]; omega
 have xE := Eh hne
 rw [hne] at hn
 obtain ⟨_, _, ra, rc, hav, _⟩ := id hrd
 have hln : x.ln = es.length := (Value.slice.inj hav).2.1
 have hml := hrd.2.1
 unfold maxLen at hml
 obtain ⟨N, hN⟩ : ∃ N, es.length = N := ⟨_, rfl⟩
 rw [hln, hN] at hrd
 rw [hN] at hml
 have yB := Eh (show ∀ (j : Nat) (e : PredE) (W : World), es[j]? = some e → Kept (fun _ => False) W1 W → Calls Tryz.prog 174 #[.agg e.cells.toArray] W fun r w' => r = .returned (.int .i64 (e.p.nodes.length : Int)) ∧ Kept (fun _ => False) W w' from
  fun j e W he k => ih e.p (by rw [← hl, hsub]; exact List.mem_map_of_mem (List.mem_of_getElem? he)) e W rfl (by
   have h1 : e.p.nodes.length ≤ (es.flatMap (fun e => e.p.nodes)).length := by
    obtain ⟨a, b, rfl⟩ := List.append_of_mem (List.mem_of_getElem? he)
    simp
    omega
   omega) ((hes e (List.mem_of_getElem? he)).kept k))
 have vk := Eh hrd
 have HN := Eh hN
 have vK := Eh (show x.ln = N by rw [hln, hN])
 have uW := Eh hW1
 have vd := Eh hk1
 have vj := Eh hb1
 obtain ⟨rr, hrr⟩ : ∃ rr : Int, rr = ((PredT.mk op col v w0 pl).nodes.length : Int) := ⟨_, rfl⟩
 rw [← hrr]
 have vA := Eh hrr
 clear ih hx hat hat1 hl hsub hes hrd hav hln hne hN hW1 hk1 hb1 hrr
 go_enter Tryz.func174, Tryz.ntmps174
 go_upto_region 1 with fail
 rw [← uW.out]
 clear uW
 generalize w.heap.size = bx at *
 obtain ⟨la, hla⟩ : ∃ la, la = x.la := ⟨_, rfl⟩
 obtain ⟨lc, hlc⟩ : ∃ lc, lc = x.lc := ⟨_, rfl⟩
 have HB := Eh (show ∀ W, Kept (fun _ => False) W1 W → W.cell? ⟨bx, 8, none⟩ = some (.slice la N lc) from fun W k => by
  obtain ⟨_, _, _, _, _, _, _, _, h8⟩ := aM (aB k vj.out)
  rw [vK.out, ← hla, ← hlc] at h8
  exact h8)
 rw [← hla, ← hlc] at vk
 clear hla hlc
 go_wp2_with fail
 go_loopw [3, 4] (fun u i wr => ∃ j : Nat, i = .int .i64 j ∧ u = .int .i64 (gC es j : Int) ∧ j ≤ N ∧ Kept (fun _ => False) W1 wr) (fun _ i _ => N - (intOf i).toNat)
 case atStart => exact ⟨0, rfl, rfl, by omega, Kept.refl _ _⟩
 case round =>
  obtain ⟨j, rfl, rfl, hj, hk⟩ := hrel
  have HK := Eh hk
  have x8 := HB.out wr hk
  clear hk
  by_cases hlt : j < N
  ·have hii : (j : Int) < (N : Int) := by omega
   obtain ⟨e, he⟩ : ∃ e, es[j]? = some e := ⟨es[j]'(by rw [HN.out]; exact hlt), List.getElem?_eq_getElem _⟩
   obtain ⟨g, og, rfl, hrng⟩ := aF PredE.len (Rd.kept vk.out HK.out (fun _ _ h => h)) he HN.out
   have HL := Eh (bD hrng)
   have HC := Eh (yB.out j e wr he HK.out)
   have xZ := Eh (oC he)
   have hb := rP es (j + 1)
   rw [xZ.out] at hb
   clear he hrng
   generalize gC es j = a at *
   generalize e.p.nodes.length = b at *
   have hw : IntKind.i64.wrap ((a : Int) + (b : Int)) = (a : Int) + (b : Int) := IntWalk.i64_in _ (by omega)
   go_wp2_with (first | (refine ai rfl _ _ rfl _ _ rfl _ HL.out ?_) | (go_at_call 174; refine HC.out.mono ?_; rintro e4 w4 ⟨rfl, hk4⟩; have wy := Eh (HK.out.trans hk4 (fun _ h => h.elim)); clear hk4 HC HL))
   go_roundw
   case rel => exact ⟨j + 1, by go_num, by rw [xZ.out]; go_num, by omega, wy.out⟩
   case measure => simp [intOf]; omega
  ·have hii : ¬ ((j : Int) < (N : Int)) := by omega
   have HT := Eh (show gC es j = 1 + (es.flatMap (fun e => e.p.nodes)).length by unfold gC; rw [List.take_of_length_le (by rw [HN.out]; omega)])
   go_wp2_with fail
   go_ret
   exact ⟨by rw [vA.out, xE.out, ← HT.out]; rfl, vd.out.trans HK.out (fun _ h => h.elim)⟩
end Go.Proofs.YtgljdkjepdknnaaGreatDoor
