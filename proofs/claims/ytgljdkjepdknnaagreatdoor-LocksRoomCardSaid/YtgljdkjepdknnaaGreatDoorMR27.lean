/- Joined texts: value.Right. (printed by genlk.py) row.Check, row.Fits. (printed by genlk.py) Reasons in memory. IndexFunc over reasons. (printed by genlk.py) DeleteFunc over reasons. (printed by genlk.py) DeleteFunc over claims. (printed by genlk.py) -/
import Derived.Test.YtgljdkjepdknnaaGreatDoorMR1
import Derived.Test.YtgljdkjepdknnaaGreatDoorMR6
import Derived.Test.YtgljdkjepdknnaaGreatDoorMR26
/- value.Right. (printed by genlk.py) -/
namespace Go.Proofs.YtgljdkjepdknnaaGreatDoor
open Go.ChangeShapes Go.WideShapes Go.ChangeAt Go.RowKit
set_option maxRecDepth 100000
set_option linter.unusedSimpArgs false

set_option maxHeartbeats 1000000 in
theorem right_ok (v : Val) (w : World) : Calls Tryz.prog 122 #[v.v] w fun e w' => e = .returned (.bool (valRight v)) ∧ Kept (fun _ => False) w w' := by
 obtain ⟨t, n, s⟩ := v
 have hk : Kept (fun _ => False) w (w.alloc (.cells #[.bool t, .int .i64 n, .string s] 31)) := (Kept.refl _ _).alloc _
 have HK := Lib.hid hk
 clear hk
 cases t
 ·have e : valEqB false n s false n ⟨#[]⟩ = valRight ⟨false, n, s⟩ := by simp [valEqB, valRight]
  have E := Lib.hid e
  clear e
  go_enter Tryz.func122, Tryz.ntmps122
  go_wp2_with fail
  go_ret
  exact ⟨by rw [← E.out]; rfl, HK.out⟩
 ·by_cases h : n = 0
  ·subst h
   by_cases hs : (s.size : Int) ≤ 12
   ·have E := Lib.hid (show valRight ⟨true, 0, s⟩ = true by simp [valRight]; omega)
    go_enter Tryz.func122, Tryz.ntmps122
    go_wp2_with fail
    go_ret
    exact ⟨by rw [E.out]; rfl, HK.out⟩
   ·have E := Lib.hid (show valRight ⟨true, 0, s⟩ = false by simp [valRight]; omega)
    go_enter Tryz.func122, Tryz.ntmps122
    go_wp2_with fail
    go_ret
    exact ⟨by rw [E.out]; rfl, HK.out⟩
  ·have hv : valEqB true n s true 0 s = false := by simp [valEqB, h]
   have E := Lib.hid (show valRight ⟨true, n, s⟩ = false by simp [valRight, h])
   go_enter Tryz.func122, Tryz.ntmps122
   go_wp2_with fail
   go_ret
   exact ⟨by rw [E.out]; rfl, HK.out⟩
end Go.Proofs.YtgljdkjepdknnaaGreatDoor

/- row.Check, row.Fits. (printed by genlk.py) -/
namespace Go.Proofs.YtgljdkjepdknnaaGreatDoor
open Go.ChangeShapes Go.WideShapes Go.ChangeAt Go.RowKit
set_option maxRecDepth 100000
set_option linter.unusedSimpArgs false

abbrev tV : TypeId := 31
theorem key_cells {w : World} {g o N cap h : Nat} {keys : List Val} {x : Val} (hrd : Rd w 3 (.slice (some ⟨g, o, none⟩) N cap) N (keys.flatMap Val.cells)) (hx : keys[h]? = some x) :
  w.cell? ⟨g, o + h * 3, none⟩ = some (.bool x.t) ∧ w.cell? ⟨g, o + h * 3 + 1, none⟩ = some (.int .i64 x.n) ∧ w.cell? ⟨g, o + h * 3 + 2, none⟩ = some (.string x.s) := by
 have hlt := (List.getElem?_eq_some_iff.1 hx).1
 rcases hrd.2.2 with ⟨_, _, hv, _, _, _, hcell⟩
 cases hv
 rcases hcell with h0 | ⟨_, _, hg, hc⟩
 ·have := hrd.1
  rw [flat_len Val.len] at this
  omega
 cases hg
 have a0 := hc _ _ (flat_get Val.len keys h _ hx 0 _ rfl)
 have a1 := hc _ _ (flat_get Val.len keys h _ hx 1 _ rfl)
 have a2 := hc _ _ (flat_get Val.len keys h _ hx 2 _ rfl)
 rw [Nat.add_zero] at a0
 rw [← Nat.add_assoc] at a1 a2
 exact ⟨a0, a1, a2⟩
abbrev tB : TypeId := 4
abbrev tBs : TypeId := 25
abbrev tTab : TypeId := 27
abbrev tTabs : TypeId := 28
def bcells (b : Bool) : List Value := [.bool b]
theorem blen (b : Bool) : (bcells b).length = 1 := rfl
theorem bone (b : Bool) : ∀ u ∈ bcells b, u.oneCell' = true := by intro u hu; simp [bcells] at hu; subst hu; rfl
/-- a row of values is read; a table's columns are read -/
abbrev ColRd (w : World) (v : Value) (c : List Bool) : Prop := Rd w 1 v c.length (c.flatMap bcells)
def mayT (c : List Bool) : Bool := decide (1 ≤ c.length) && decide (c.length ≤ 4)
def chk (c : List Bool) : Int := if mayT c then 0 else 1
def fitAt (c : List Bool) (r : List Val) (n : Nat) : Bool := ((r.zip c).take n).all fun p => decide (p.1.t = p.2) && valRight p.1
def fitsT (c : List Bool) (r : List Val) : Bool := mayT c && decide (r.length = c.length) && fitAt c r r.length

theorem col_cell {w : World} {g o n c i : Nat} {x : Bool} {cs : List Bool} (h : Rd w 1 (.slice (some ⟨g, o, none⟩) n c) n (cs.flatMap bcells)) (hi : cs[i]? = some x) : w.cell? ⟨g, o + i, none⟩ = some (.bool x) := by
 have hlt := (List.getElem?_eq_some_iff.1 hi).1
 rcases h.2.2 with ⟨_, _, hv, _, _, _, hcell⟩
 cases hv
 rcases hcell with h0 | ⟨_, _, hg, hc⟩
 ·have := h.1
  rw [flat_len blen] at this
  omega
 ·cases hg
  have := hc _ _ (flat_get blen cs i x hi 0 _ rfl)
  simpa using this
theorem col_src {w : World} {ao : Option Addr} {N cap k : Nat} {xs : List Bool} {x : Bool} (h : Rd w 1 (.slice ao N cap) N (xs.flatMap bcells)) (hx : xs[k]? = some x) (hl : xs.length = N) : ∃ g og, ao = some ⟨g, og, none⟩ := by
 have hlt := (List.getElem?_eq_some_iff.1 hx).1
 rcases h.2.2 with ⟨_, _, hv, _, _, _, hc⟩
 cases hv
 rcases hc with h0 | ⟨g, o, hg, _⟩
 ·omega
 ·exact ⟨g, o, hg⟩
theorem row_src {w : World} {ao : Option Addr} {N cap k : Nat} {xs : List Val} {x : Val} (h : Rd w 3 (.slice ao N cap) N (xs.flatMap Val.cells)) (hx : xs[k]? = some x) (hl : xs.length = N) : ∃ g og, ao = some ⟨g, og, none⟩ := by
 have hlt := (List.getElem?_eq_some_iff.1 hx).1
 rcases h.2.2 with ⟨_, _, hv, _, _, _, hc⟩
 cases hv
 rcases hc with h0 | ⟨g, o, hg, _⟩
 ·omega
 ·exact ⟨g, o, hg⟩
theorem fitAt_succ {c : List Bool} {r : List Val} {j : Nat} {x : Val} {b : Bool} (hx : r[j]? = some x) (hb : c[j]? = some b) : fitAt c r (j + 1) = (fitAt c r j && (decide (x.t = b) && valRight x)) := by
 have hz : (r.zip c)[j]? = some (x, b) := by rw [List.getElem?_zip_eq_some]; exact ⟨hx, hb⟩
 unfold fitAt
 rw [List.take_add_one, hz, List.all_append]
 simp
theorem fitAt_less {c : List Bool} {r : List Val} {j n : Nat} (h : j ≤ n) (hf : fitAt c r j = false) : fitAt c r n = false := by
 unfold fitAt at *
 rw [List.all_eq_false] at *
 obtain ⟨p, hp, h2⟩ := hf
 exact ⟨p, (List.take_subset_take_left (r.zip c) h) hp, h2⟩

theorem rowChk_ok {w : World} {cv : Value} {c : List Bool} (h : ColRd w cv c) : Calls Tryz.prog 78 #[.agg #[cv]] w fun e w' => e = .returned (.int .i64 (chk c)) ∧ Kept (fun _ => False) w w' := by
 obtain ⟨_, m1, ao, cap, rfl, _⟩ := h
 have HK := Lib.hid (show Kept (fun _ => False) w (w.alloc (.cells #[.slice ao c.length cap] tTab)) from (Kept.refl _ _).alloc _)
 by_cases h1 : 1 ≤ c.length
 ·by_cases h2 : c.length ≤ 4
  ·have HM := Lib.hid (show chk c = 0 by simp [chk, mayT, h1, h2])
   have e1 : ¬ ((c.length : Int) < 1) := by omega
   have e2 : ¬ ((c.length : Int) > 4) := by omega
   go_enter Tryz.func78, Tryz.ntmps78
   go_wp2_with fail
   go_ret
   rw [HM.out]
   exact ⟨rfl, HK.out⟩
  ·have HM := Lib.hid (show chk c = 1 by simp [chk, mayT, h2])
   have e1 : ¬ ((c.length : Int) < 1) := by omega
   have e2 : ((c.length : Int) > 4) := by omega
   go_enter Tryz.func78, Tryz.ntmps78
   go_wp2_with fail
   go_ret
   rw [HM.out]
   exact ⟨rfl, HK.out⟩
 ·have HM := Lib.hid (show chk c = 1 by simp [chk, mayT, h1])
  have e1 : ((c.length : Int) < 1) := by omega
  go_enter Tryz.func78, Tryz.ntmps78
  go_wp2_with fail
  go_ret
  rw [HM.out]
  exact ⟨rfl, HK.out⟩

set_option maxHeartbeats 4000000 in
theorem rowFits_ok {w : World} {cv rv : Value} {c : List Bool} {r : List Val} (hc : ColRd w cv c) (hr : RowRd w rv r) : Calls Tryz.prog 124 #[.agg #[cv], rv] w fun e w' => e = .returned (.bool (fitsT c r)) ∧ Kept (fun _ => False) w w' := by
 have hk1 : Kept (fun _ => False) w (w.alloc (.cells #[cv] tTab)) := (Kept.refl _ _).alloc _
 have hb1 : (w.alloc (.cells #[cv] tTab)).heap[w.heap.size]? = some (.cells #[cv] tTab (0, 0)) := heap_alloc_self w _
 have HC := Lib.hid (Rd.kept hc hk1 (fun _ _ h => h))
 have HR := Lib.hid (Rd.kept hr hk1 (fun _ _ h => h))
 have HK1 := Lib.hid hk1
 have HB1 := Lib.hid hb1
 obtain ⟨-, m1, co, ccap, rfl, -⟩ := hc
 obtain ⟨-, m2, ro, rcap, rfl, -⟩ := hr
 clear hk1 hb1
 go_enter Tryz.func124, Tryz.ntmps124
 go_upto_region 1 with (fail)
 obtain ⟨W, hW⟩ : ∃ W, W = w.alloc (.cells #[.slice co c.length ccap] tTab) := ⟨_, rfl⟩
 rw [← hW] at HC HR HK1 HB1 ⊢
 generalize w.heap.size = bt at HB1 ⊢
 clear hW
 obtain ⟨b0, bf⟩ := cells1 HB1.out
 have HCH := Lib.hid (rowChk_ok HC.out)
 cases hm : mayT c
 ·have HM := Lib.hid (show chk c = 1 by simp [chk, hm])
  have HF := Lib.hid (show fitsT c r = false by simp [fitsT, hm])
  clear hm
  go_wp2_with ((go_at_call 78; refine HCH.out.mono ?_; rw [HM.out]; rintro e1 w1 ⟨rfl, hk2⟩; have HK2 := Lib.hid hk2; clear hk2 b0 bf))
  go_ret
  rw [HF.out]
  exact ⟨rfl, HK1.out.trans HK2.out (fun _ h => h.elim)⟩
 have HM := Lib.hid (show chk c = 0 by simp [chk, hm])
 by_cases hl : r.length = c.length
 ·obtain ⟨N, hN⟩ : ∃ N, r.length = N := ⟨_, rfl⟩
  have HF := Lib.hid (show fitsT c r = fitAt c r N by unfold fitsT; rw [hm, decide_eq_true hl, hN]; rfl)
  have HN := Lib.hid hN
  have hcn : c.length = N := by omega
  have HCN := Lib.hid hcn
  rw [hcn] at HC HCH HB1 b0 m1 ⊢
  rw [hN] at HR m2 ⊢
  unfold maxLen at m1 m2
  clear hm hl hN hcn
  go_upto_region 3 with ((go_at_call 78; refine HCH.out.mono ?_; rw [HM.out]; rintro e1 w1 ⟨rfl, hk2⟩; have HK2 := Lib.hid hk2; clear hk2 b0 bf; have hb1 := (HK2.out.block _ (lt_of_heap HB1.out) (fun h => h)).trans HB1.out; obtain ⟨b0, bf⟩ := cells1 hb1; have HB2 := Lib.hid hb1; clear hb1))
  have HC2 := Lib.hid (Rd.kept HC.out HK2.out (fun _ _ h => h))
  have HR2 := Lib.hid (Rd.kept HR.out HK2.out (fun _ _ h => h))
  have HK3 := Lib.hid (HK1.out.trans HK2.out (fun _ h => h.elim))
  clear HC HR HB1 HCH HM HK1 HK2
  go_wp2_with fail
  clear b0 bf
  go_loopw [20] (fun idx wr => ∃ j : Nat, idx = .int .i64 j ∧ j ≤ N ∧ fitAt c r j = true ∧ Kept (fun _ => False) w1 wr) (fun idx _ => N - (intOf idx).toNat)
  case atStart => exact ⟨0, rfl, Nat.zero_le _, by simp [fitAt], Kept.refl _ _⟩
  case round =>
   obtain ⟨j, rfl, hj, hno, hkr⟩ := hrel
   by_cases hlt : j < N
   ·obtain ⟨x, hx⟩ : ∃ x, r[j]? = some x := ⟨r[j]'(by rw [HN.out]; exact hlt), List.getElem?_eq_getElem _⟩
    obtain ⟨b, hb⟩ : ∃ b, c[j]? = some b := ⟨c[j]'(by rw [HCN.out]; exact hlt), List.getElem?_eq_getElem _⟩
    have hrr := Rd.kept HR2.out hkr (fun _ _ h => h)
    obtain ⟨rg, rog, rfl⟩ := row_src hrr hx HN.out
    obtain ⟨cg, cog, rfl⟩ := col_src HC2.out hb HCN.out
    obtain ⟨y0, y1, y2⟩ := key_cells hrr hx
    have hk3 : Kept (fun _ => False) wr (wr.alloc (.cells #[.bool x.t, .int .i64 x.n, .string x.s] tV)) := (Kept.refl _ _).alloc _
    have hb3 : (wr.alloc (.cells #[.bool x.t, .int .i64 x.n, .string x.s] tV)).heap[wr.heap.size]? = some (.cells #[.bool x.t, .int .i64 x.n, .string x.s] tV (0, 0)) := heap_alloc_self wr _
    have hk4 := hkr.trans hk3 (fun _ h => h.elim)
    have HB3 := Lib.hid hb3
    have HK4 := Lib.hid hk4
    have HSUC := Lib.hid (fitAt_succ hx hb)
    have HNO := Lib.hid hno
    have HBC := Lib.hid hb
    have hib : (j : Int) < (N : Int) := by omega
    clear hx hb hrr hk3 hb3 hk4 hno hkr
    go_upto_region 6 with (fail)
    obtain ⟨W3, hW3⟩ : ∃ W3, W3 = wr.alloc (.cells #[.bool x.t, .int .i64 x.n, .string x.s] tV) := ⟨_, rfl⟩
    rw [← hW3] at HB3 HK4 ⊢
    generalize wr.heap.size = bk at HB3 ⊢
    clear hW3 y0 y1 y2
    obtain ⟨x0, x1, x2, xf⟩ := cells3 HB3.out
    obtain ⟨b0, bf⟩ := cells1 ((HK4.out.block _ (lt_of_heap HB2.out) (fun h => h)).trans HB2.out)
    have hcc := col_cell (Rd.kept HC2.out HK4.out (fun _ _ h => h)) HBC.out
    by_cases hxt : x.t = b
    ·subst hxt
     cases hv : valRight x
     ·have HV := Lib.hid hv
      have HFF := Lib.hid (show fitAt c r N = false from fitAt_less (show j + 1 ≤ N by omega) (by rw [HSUC.out, hv]; simp))
      clear hv
      refine wp_region_canon [(0, false, 10), (1, false, 10), (2, false, 10), (3, false, 10), (4, false, 10), (5, false, 10), (6, false, 10), (7, false, 10), (8, false, 10), (9, false, 10), (10, true, 0), (11, false, 999), (12, false, 999)] (by kernel_rfl) (by kernel_rfl) ?_
      iterate 9 (refine wpCan_read rfl rfl (fun K hK => ?_); go_simp; refine hK _ ?_; clear hK K)
      first | (refine wpCan_no rfl rfl ?_; simp only [Act.put, List.setIfInBounds_toArray, List.set_cons_succ, List.set_cons_zero, List.getElem_toArray, List.getElem_cons_succ, List.getElem_cons_zero]) | (refine wpCan_yes rfl rfl (fun K hK => ?_); go_simp; refine hK _ ?_; clear hK K)
      refine wpCan_eff rfl ?_
      refine wpList_do rfl (fun K hK => ?_)
      go_simp
      refine (right_ok x _).mono ?_
      rintro e4 w4 ⟨rfl, hk5⟩
      rw [HV.out]
      have HK5 := Lib.hid (((HK3.out.trans HK4.out (fun _ h => h.elim)).trans ((Kept.refl (fun _ => False) W3).drew) (fun _ h => h.elim)).trans hk5 (fun _ h => h.elim))
      clear hk5 x0 x1 x2 xf b0 bf hcc
      refine hK _ _ ?_
      clear hK K
      refine wpList_nil ?_
      refine And.intro ?_ ?_
      ·go_simp
      first | (refine wpCan_no rfl rfl ?_; simp only [Act.put, List.setIfInBounds_toArray, List.set_cons_succ, List.set_cons_zero, List.getElem_toArray, List.getElem_cons_succ, List.getElem_cons_zero]) | (refine wpCan_yes rfl rfl (fun K hK => ?_); go_simp; refine hK _ ?_; clear hK K)
      iterate 1 (refine wpCan_read rfl rfl (fun K hK => ?_); go_simp; refine hK _ ?_; clear hK K)
      refine wpCan_nil ?_
      go_wp2_with fail
      go_ret
      rw [HF.out, HFF.out]
      exact ⟨rfl, HK5.out⟩
     ·have HV := Lib.hid hv
      have HFF := Lib.hid (show fitAt c r (j + 1) = true by rw [HSUC.out, hv, HNO.out]; simp)
      clear hv
      refine wp_region_canon [(0, false, 10), (1, false, 10), (2, false, 10), (3, false, 10), (4, false, 10), (5, false, 10), (6, false, 10), (7, false, 10), (8, false, 10), (9, false, 10), (10, true, 0), (11, false, 999), (12, false, 999)] (by kernel_rfl) (by kernel_rfl) ?_
      iterate 9 (refine wpCan_read rfl rfl (fun K hK => ?_); go_simp; refine hK _ ?_; clear hK K)
      first | (refine wpCan_no rfl rfl ?_; simp only [Act.put, List.setIfInBounds_toArray, List.set_cons_succ, List.set_cons_zero, List.getElem_toArray, List.getElem_cons_succ, List.getElem_cons_zero]) | (refine wpCan_yes rfl rfl (fun K hK => ?_); go_simp; refine hK _ ?_; clear hK K)
      refine wpCan_eff rfl ?_
      refine wpList_do rfl (fun K hK => ?_)
      go_simp
      refine (right_ok x _).mono ?_
      rintro e4 w4 ⟨rfl, hk5⟩
      rw [HV.out]
      have HK5 := Lib.hid ((HK4.out.trans ((Kept.refl (fun _ => False) W3).drew) (fun _ h => h.elim)).trans hk5 (fun _ h => h.elim))
      clear hk5 x0 x1 x2 xf b0 bf hcc
      refine hK _ _ ?_
      clear hK K
      refine wpList_nil ?_
      refine And.intro ?_ ?_
      ·go_simp
      first | (refine wpCan_no rfl rfl ?_; simp only [Act.put, List.setIfInBounds_toArray, List.set_cons_succ, List.set_cons_zero, List.getElem_toArray, List.getElem_cons_succ, List.getElem_cons_zero]) | (refine wpCan_yes rfl rfl (fun K hK => ?_); go_simp; refine hK _ ?_; clear hK K)
      iterate 1 (refine wpCan_read rfl rfl (fun K hK => ?_); go_simp; refine hK _ ?_; clear hK K)
      refine wpCan_nil ?_
      go_wp2_with fail
      go_roundw
      case rel => exact ⟨j + 1, by go_num, by omega, HFF.out, HK5.out⟩
      case measure => simp [intOf]; omega
    ·obtain rfl : b = !x.t := by cases b <;> cases h : x.t <;> simp_all
     have HFF := Lib.hid (show fitAt c r N = false from fitAt_less (show j + 1 ≤ N by omega) (by rw [HSUC.out]; simp))
     clear hxt
     refine wp_region_canon [(0, false, 10), (1, false, 10), (2, false, 10), (3, false, 10), (4, false, 10), (5, false, 10), (6, false, 10), (7, false, 10), (8, false, 10), (9, false, 10), (10, true, 0), (11, false, 999), (12, false, 999)] (by kernel_rfl) (by kernel_rfl) ?_
     iterate 9 (refine wpCan_read rfl rfl (fun K hK => ?_); go_simp; refine hK _ ?_; clear hK K)
     first | (refine wpCan_no rfl rfl ?_; simp only [Act.put, List.setIfInBounds_toArray, List.set_cons_succ, List.set_cons_zero, List.getElem_toArray, List.getElem_cons_succ, List.getElem_cons_zero]) | (refine wpCan_yes rfl rfl (fun K hK => ?_); go_simp; refine hK _ ?_; clear hK K)
     refine wpCan_eff rfl ?_
     refine wpList_not rfl ?_
     simp only [Act.put, List.setIfInBounds_toArray, List.set_cons_succ, List.set_cons_zero]
     refine wpList_nil ?_
     refine And.intro ?_ ?_
     ·go_simp
     first | (refine wpCan_no rfl rfl ?_; simp only [Act.put, List.setIfInBounds_toArray, List.set_cons_succ, List.set_cons_zero, List.getElem_toArray, List.getElem_cons_succ, List.getElem_cons_zero]) | (refine wpCan_yes rfl rfl (fun K hK => ?_); go_simp; refine hK _ ?_; clear hK K)
     iterate 1 (refine wpCan_read rfl rfl (fun K hK => ?_); go_simp; refine hK _ ?_; clear hK K)
     refine wpCan_nil ?_
     have HK5 := Lib.hid ((HK3.out.trans HK4.out (fun _ h => h.elim)).trans ((Kept.refl (fun _ => False) W3).drew) (fun _ h => h.elim))
     go_wp2_with fail
     go_ret
     rw [HF.out, HFF.out]
     exact ⟨rfl, HK5.out⟩
   ·obtain rfl : j = N := by omega
    have HFF := Lib.hid hno
    have HK9 := Lib.hid (HK3.out.trans hkr (fun _ h => h.elim))
    clear hno hkr
    go_wp2_with fail
    go_ret
    rw [HF.out, HFF.out]
    exact ⟨rfl, HK9.out⟩
 ·have HF := Lib.hid (show fitsT c r = false by unfold fitsT; rw [hm, decide_eq_false hl]; rfl)
  have hl' : ¬ ((r.length : Int) = (c.length : Int)) := by omega
  clear hm hl
  go_wp2_with ((go_at_call 78; refine HCH.out.mono ?_; rw [HM.out]; rintro e1 w1 ⟨rfl, hk2⟩; have HK2 := Lib.hid hk2; clear hk2 b0 bf; obtain ⟨b0, bf⟩ := cells1 ((HK2.out.block _ (lt_of_heap HB1.out) (fun h => h)).trans HB1.out)))
  go_ret
  rw [HF.out]
  exact ⟨rfl, HK1.out.trans HK2.out (fun _ h => h.elim)⟩
end Go.Proofs.YtgljdkjepdknnaaGreatDoor

/- Reasons in memory. -/
namespace Go.Proofs.YtgljdkjepdknnaaGreatDoor
open Go.ChangeShapes Go.WideShapes Go.ChangeAt Go.RowKit
set_option maxRecDepth 100000
set_option linter.unusedSimpArgs false

abbrev tRs : TypeId := 125
abbrev tLk : TypeId := 77
/-- a reason's words in memory -/
structure RsnE where
 o : Int
 x : ClmE
 why : Int
def cellsW (e : RsnE) : List Value := [.int .i64 e.o, .int .i64 e.x.kind, .int .i64 e.x.table, .int .i64 e.x.mode, .bool e.x.key.t, .int .i64 e.x.key.n, .string e.x.key.s, .slice e.x.ia e.x.il e.x.ic, .int .i64 e.x.pr.op, .int .i64 e.x.pr.col, .bool e.x.pr.v.t, .int .i64 e.x.pr.v.n, .string e.x.pr.v.s, .bool e.x.pr.w.t, .int .i64 e.x.pr.w.n, .string e.x.pr.w.s, .slice e.x.pr.la e.x.pr.ln e.x.pr.lc, .int .u8 e.why]
abbrev rsnE (e : RsnE) : Rsn := ⟨e.o, e.x.c, e.why⟩
abbrev OkW (D : PH) (e : RsnE) : Prop := ClOk D e.x
theorem lenW (e : RsnE) : (cellsW e).length = 18 := rfl
theorem oneW (e : RsnE) : ∀ u ∈ cellsW e, u.oneCell' = true := by intro u hu; simp [cellsW] at hu; rcases hu with rfl | rfl | rfl | rfl | rfl | rfl | rfl | rfl | rfl | rfl | rfl | rfl | rfl | rfl | rfl | rfl | rfl | rfl <;> rfl
@[go_sem] theorem sizeW (e : RsnE) : (cellsW e).toArray.size = 18 := rfl
theorem loadW {w : World} {g o : Nat} {e : RsnE} (h : w.rangeAt g o (cellsW e)) : (loadVar tRs ⟨g, o, none⟩).run Tryz.prog w = .ok (.agg (cellsW e).toArray) w := run_loadVar_mid w g o _ _ _ h Tryz.underlying125 rfl (by kernel_rfl)
theorem whyW {w : World} {g o : Nat} {e : RsnE} (h : w.rangeAt g o (cellsW e)) : w.cell? ⟨g, o, none⟩ = some (.int .i64 e.o) ∧ w.cell? ⟨g, o + 17, none⟩ = some (.int .u8 e.why) := ⟨h 0 _ rfl, h 17 _ rfl⟩
theorem boxW {w : World} {b : Nat} {e : RsnE} {t : TypeId} {fr : Nat × Nat} (h : w.heap[b]? = some (.cells (cellsW e).toArray t fr)) : w.cell? ⟨b, 0, none⟩ = some (.int .i64 e.o) ∧ w.cell? ⟨b, 17, none⟩ = some (.int .u8 e.why) := by
 refine ⟨?_, ?_⟩ <;> simp [World.cell?, h, cellsW]
theorem boxClW {w : World} {b : Nat} {e : RsnE} {t : TypeId} {fr : Nat × Nat} (h : w.heap[b]? = some (.cells (cellsW e).toArray t fr)) : w.rangeAt b 1 e.x.cells := fun j v hv => by
 rw [cell_of_row w b (1 + j) _ t fr h]
 have hj : j < 16 := by have := (List.getElem?_eq_some_iff.1 hv).1; rwa [ClmE.len] at this
 rw [← hv]
 rw [show 1 + j = j + 1 by omega]
 simp only [List.getElem?_toArray, cellsW, List.getElem?_cons_succ]
 show (e.x.cells ++ [.int .u8 e.why])[j]? = _
 rw [List.getElem?_append_left (by rw [ClmE.len]; exact hj)]
def RepW (D : PH) (rs : List RsnE) (L : List Rsn) : Prop := rs.map rsnE = L ∧ ∀ x ∈ rs, OkW D x
abbrev rsnsW (v : Value) (rs : List RsnE) : HP := ownS tRs 18 v rs.length (rs.flatMap cellsW)
theorem RepW.mono {D D' : PH} (le : PH.le D D') {rs : List RsnE} {L : List Rsn} (h : RepW D rs L) : RepW D' rs L := ⟨h.1, fun x hx => (h.2 x hx).mono le⟩
theorem idx_map_W (p : Rsn → Bool) (rs : List RsnE) : idxI (fun x => p (rsnE x)) rs = idxI p (rs.map rsnE) := by
 unfold idxI
 rw [List.findIdx?_map]
 rfl
/-- tables' columns in memory -/
def TblsAt (D : PH) (v : Value) (ts : List (List Bool)) : Prop := ∃ hs : List Value, hs.length = ts.length ∧ (∀ u ∈ hs, u.oneCell' = true) ∧ RdP D 1 v ts.length hs ∧ ∀ (i : Nat) (h : Value) (r : List Bool), hs[i]? = some h → ts[i]? = some r → RdP D 1 h r.length (r.flatMap bcells)
def TblsRd (w : World) (v : Value) (ts : List (List Bool)) : Prop := ∃ hs : List Value, hs.length = ts.length ∧ Rd w 1 v ts.length hs ∧ ∀ (i : Nat) (h : Value) (r : List Bool), hs[i]? = some h → ts[i]? = some r → Rd w 1 h r.length (r.flatMap bcells)
theorem TblsAt.mono {D D' : PH} (le : PH.le D D') {v : Value} {ts : List (List Bool)} (h : TblsAt D v ts) : TblsAt D' v ts := by
 obtain ⟨hs, h1, h2, h3, h4⟩ := h
 exact ⟨hs, h1, h2, h3.mono le, fun i u r a b => (h4 i u r a b).mono le⟩
theorem TblsAt.rd {B w : World} {D : PH} {l : List HP} (hs : Sat B D w l) {v : Value} {ts : List (List Bool)} (h : TblsAt D v ts) : TblsRd w v ts := by
 obtain ⟨us, h1, h2, h3, h4⟩ := h
 exact ⟨us, h1, h3.rd hs, fun i u r a b => (h4 i u r a b).rd hs⟩
theorem TblsRd.kept {w w' : World} (k : Kept (fun _ => False) w w') {v : Value} {ts : List (List Bool)} (h : TblsRd w v ts) : TblsRd w' v ts := by
 obtain ⟨hs, h1, h2, h3⟩ := h
 exact ⟨hs, h1, h2.kept k (fun _ _ h => h), fun i u r a b => (h3 i u r a b).kept k (fun _ _ h => h)⟩
/-- the words of locks in memory: queue, tables, room, reasons -/
abbrev lkb (L q : Nat) (tv : Value) (room : Int) (rv : Value) : HP := blk L #[.pointer (some ⟨q, 0, none⟩), tv, .int .i64 room, rv] tLk
/-- locks in memory -/
def lksC (D : PH) (L : Nat) (ts : List (List Bool)) (room : Int) (m : LkM) : HP := exP (fun x : (Nat × Value) × (Value × List RsnE) => TblsAt D x.1.2 ts ∧ RepW D x.2.2 m.why) (fun x => [lkb L x.1.1 x.1.2 room x.2.1, queC D x.1.1 m.q, rsnsW x.2.1 x.2.2])
section
variable {B w : World} {D D' : PH} {l : List HP} {L : Nat} {ts : List (List Bool)} {room : Int} {m : LkM}
theorem lksOpen (h : Sat B D w (lksC D' L ts room m :: l)) : ∃ (q : Nat) (tv rv : Value) (rs : List RsnE), TblsAt D' tv ts ∧ RepW D' rs m.why ∧ Sat B D w (lkb L q tv room rv :: queC D' q m.q :: rsnsW rv rs :: l) := by
 obtain ⟨⟨⟨q, tv⟩, rv, rs⟩, ⟨h1, h2⟩, h3⟩ := Sat.open_ex h
 exact ⟨q, tv, rv, rs, h1, h2, h3⟩
theorem lksShut {q : Nat} {tv rv : Value} {rs : List RsnE} (h1 : TblsAt D' tv ts) (h2 : RepW D' rs m.why) (h : Sat B D w (lkb L q tv room rv :: queC D' q m.q :: rsnsW rv rs :: l)) : Sat B D w (lksC D' L ts room m :: l) :=
 Sat.close_ex ((q, tv), rv, rs) ⟨h1, h2⟩ h
end
end Go.Proofs.YtgljdkjepdknnaaGreatDoor

/- IndexFunc over reasons. (printed by genlk.py) -/
namespace Go.Proofs.YtgljdkjepdknnaaGreatDoor
open Go.ChangeShapes Go.WideShapes Go.ChangeAt Go.RowKit
set_option maxRecDepth 100000
set_option linter.unusedSimpArgs false


set_option maxHeartbeats 1000000 in
theorem indexFunc_W {w : World} {v : Value} {xs : List (RsnE)} {F : Nat} {caps : Array Value} (p : RsnE → Bool) (hrd : Rd w 18 v xs.length (xs.flatMap cellsW)) (HF : ∀ x ∈ xs, PredF F caps w (cellsW x) (p x)) :
  Calls Tryz.prog 138 #[v, .func (.func F) #[] caps] w fun e w' => e = .returned (.int .i64 (idxI p xs)) ∧ Kept (fun _ => False) w w' := by
 obtain ⟨_, hml, ao, cap, rfl, hnc, hcm, _⟩ := id hrd
 unfold maxLen at hml hcm
 have HRD := Lib.hid hrd
 have HFF := Lib.hid HF
 clear hrd HF
 obtain ⟨N, hN⟩ : ∃ N, xs.length = N := ⟨_, rfl⟩
 have HN := Lib.hid hN
 rw [hN] at HRD hml hnc ⊢
 clear hN
 go_enter Tryz.func138, Tryz.ntmps138
 go_wp2_with fail
 go_loopw [8] (fun i wr => ∃ j : Nat, i = .int .i64 j ∧ j ≤ N ∧ (∀ x ∈ xs.take j, p x = false) ∧ Kept (fun _ => False) w wr) (fun i _ => N - (intOf i).toNat)
 case atStart => exact ⟨0, rfl, by omega, fun x hx => by simp at hx, Kept.refl _ _⟩
 case round =>
  obtain ⟨j, rfl, hj, hp, hk⟩ := hrel
  have HP := Lib.hid hp
  have HK := Lib.hid hk
  clear hp hk
  by_cases hlt : j < N
  ·have hi : (j : Int) < (N : Int) := by omega
   obtain ⟨x, hx⟩ : ∃ x, xs[j]? = some x := ⟨xs[j]'(by rw [HN.out]; exact hlt), List.getElem?_eq_getElem _⟩
   obtain ⟨g, o, rfl, hrng⟩ := elem_range lenW (HRD.out.kept HK.out (fun _ _ h => h)) hx HN.out
   have HL := Lib.hid (loadW hrng)
   have HX := Lib.hid hx
   obtain ⟨hent, hcall⟩ := HFF.out x (List.mem_of_getElem? hx)
   unfold Enters at hent
   have HC := Lib.hid (hcall wr HK.out)
   clear hx hrng hcall
   cases hpx : p x
   ·rw [hpx] at HC
    have HPX := Lib.hid hpx
    clear hpx
    go_wp2_with (first | (refine wpList_ld rfl _ _ rfl _ _ rfl _ HL.out ?_) | (refine HC.out.mono ?_; rintro e1 w1 ⟨rfl, hk1⟩; have HK1 := Lib.hid (HK.out.trans hk1 (fun _ h => h.elim)); clear hk1 HC HL))
    go_roundw
    case rel => exact ⟨j + 1, by go_num, by omega, mem_take_succ HP.out HX.out HPX.out, HK1.out⟩
    case measure => simp [intOf]; omega
   ·rw [hpx] at HC
    have HPX := Lib.hid hpx
    clear hpx
    go_wp2_with (first | (refine wpList_ld rfl _ _ rfl _ _ rfl _ HL.out ?_) | (refine HC.out.mono ?_; rintro e1 w1 ⟨rfl, hk1⟩; have HK1 := Lib.hid (HK.out.trans hk1 (fun _ h => h.elim)); clear hk1 HC HL))
    go_ret
    exact ⟨by rw [idxI_at HP.out HX.out HPX.out]; rfl, HK1.out⟩
  ·have hi : ¬ ((j : Int) < (N : Int)) := by omega
   have he : idxI p xs = -1 := idxI_none (by have := HP.out; rwa [List.take_of_length_le (by rw [HN.out]; omega)] at this)
   have HE := Lib.hid he
   clear he
   go_wp2_with fail
   go_ret
   exact ⟨by rw [HE.out]; rfl, HK.out⟩
end Go.Proofs.YtgljdkjepdknnaaGreatDoor

/- DeleteFunc over reasons. (printed by genlk.py) -/
namespace Go.Proofs.YtgljdkjepdknnaaGreatDoor
open Go.ChangeShapes Go.WideShapes Go.ChangeAt Go.RowKit
set_option maxRecDepth 100000
set_option linter.unusedSimpArgs false


theorem zone_W : ∀ u ∈ (Value.agg #[.int .i64 0, .int .i64 0, .int .i64 0, .int .i64 0, .bool false, .int .i64 0, .string ⟨#[]⟩, .slice none 0 0, .int .i64 0, .int .i64 0, .bool false, .int .i64 0, .string ⟨#[]⟩, .bool false, .int .i64 0, .string ⟨#[]⟩, .slice none 0 0, .int .u8 0]).cells.toList, u.oneCell' = true := by intro u hu; simp [Value.cells] at hu; rcases hu with rfl | rfl | rfl | rfl | rfl | rfl | rfl | rfl | rfl | rfl | rfl | rfl | rfl | rfl | rfl | rfl | rfl | rfl <;> rfl
theorem zeroV_W (w : World) : (zeroValue tRs).run Tryz.prog w = .ok (.agg #[.int .i64 0, .int .i64 0, .int .i64 0, .int .i64 0, .bool false, .int .i64 0, .string ⟨#[]⟩, .slice none 0 0, .int .i64 0, .int .i64 0, .bool false, .int .i64 0, .string ⟨#[]⟩, .bool false, .int .i64 0, .string ⟨#[]⟩, .slice none 0 0, .int .u8 0]) w := Tryz.zeroValue125 w
set_option maxHeartbeats 4000000 in
theorem deleteFunc_W {B w : World} {D : PH} {l : List HP} {v : Value} {n : Nat} {xs : List (RsnE)} {F : Nat} {caps : Array Value} (p : RsnE → Bool) (hn : xs.length = n) (hent : Enters Tryz.prog F) (hs : Sat B D w (ownS tRs 18 v n (xs.flatMap cellsW) :: l))
  (HF : ∀ x ∈ xs, PredS B D l F caps (cellsW x) (p x)) :
  Calls Tryz.prog 89 #[v, .func (.func F) #[] caps] w fun e w' => ∃ v', e = .returned v' ∧ Sat B D w' (ownS tRs 18 v' (xs.filter (fun x => !p x)).length ((xs.filter (fun x => !p x)).flatMap cellsW) :: l) := by
 have hle := (hs.own 0 rfl).le
 obtain ⟨ao, cap, rfl, hnc, hcm, _⟩ := (hs.own 0 rfl).rd.2.2
 have hcm' := hcm
 unfold maxLen at hle hcm
 have HCM := Lib.hid hcm'
 have HN := Lib.hid hn
 have HIDX := Lib.hid (indexFunc_W p (by rw [hn]; exact (hs.own 0 rfl).rd) (fun x hx => ⟨hent, fun W hW => HF x hx W [_] (hs.kept hW)⟩))
 have HS := Lib.hid hs
 have HFF := Lib.hid HF
 have HENT := Lib.hid hent
 clear hs HF hn hent hcm'
 by_cases hall : ∀ y ∈ xs, p y = false
 ·have hi := idxI_none hall
  rw [hi] at HIDX
  have hfil : xs.filter (fun x => !p x) = xs := List.filter_eq_self.2 (fun x hx => by simp [hall x hx])
  have HFIL := Lib.hid hfil
  clear hall hi hfil
  go_enter Tryz.func89, Tryz.ntmps89
  go_wp2_with (go_at_call 138; refine HIDX.out.mono ?_; rintro e1 w1 ⟨rfl, hk1⟩; have HS1 := Lib.hid (HS.out.kept hk1); clear hk1 HS HIDX)
  go_ret
  exact ⟨_, rfl, by rw [HFIL.out, HN.out]; exact HS1.out⟩
 have hex : ∃ (m : Nat) (x : RsnE), xs[m]? = some x ∧ p x = true ∧ ∀ y ∈ xs.take m, p y = false := by
  cases hf : xs.findIdx? p with
  | none => exact absurd (List.findIdx?_eq_none_iff.1 hf) hall
  | some m =>
   obtain ⟨hlt, h1, h2⟩ := List.findIdx?_eq_some_iff_getElem.1 hf
   refine ⟨m, xs[m], List.getElem?_eq_getElem hlt, h1, fun y hy => ?_⟩
   obtain ⟨i, hi, rfl⟩ := List.mem_take_iff_getElem.1 hy
   have := h2 i (by omega)
   simpa using this
 obtain ⟨m, x0, hx0, hpx0, hbef⟩ := hex
 have hi := idxI_at hbef hx0 hpx0
 rw [hi] at HIDX
 have hm : m < n := by have := (List.getElem?_eq_some_iff.1 hx0).1; rw [HN.out] at this; exact this
 have hfm : (xs.take m).filter (fun x => !p x) = xs.take m := List.filter_eq_self.2 (fun x hx => by simp [hbef x hx])
 have hf0 : (xs.take (m + 1)).filter (fun x => !p x) = xs.take m := by rw [filter_take_no (q := fun x => !p x) hx0 (by simp [hpx0]), hfm]
 have HF0 := Lib.hid hf0
 clear hall hi hbef hx0 hpx0 hfm hf0
 have hw1 : IntKind.i64.wrap ((m : Int) + 1) = (m : Int) + 1 := IntWalk.i64_in _ (by omega)
 have hq1 : ((m : Int) == -1) = false := by simp
 obtain ⟨g, rfl⟩ : ∃ g, ao = some ⟨g, 0, none⟩ := by
  rcases (HS.out.own 0 rfl).2.2 with ⟨h1, h2⟩ | ⟨g, c2, cur, h1, _⟩
  ·omega
  ·cases h1; exact ⟨g, rfl⟩
 go_enter Tryz.func89, Tryz.ntmps89
 go_wp2_with (go_at_call 138; refine HIDX.out.mono ?_; rintro e1 w1 ⟨rfl, hk1⟩; have HS1 := Lib.hid (HS.out.kept hk1); clear hk1 HS HIDX)
 clear hw1 hq1
 go_loopw [5, 6] (fun ki ji wr => ∃ (i j : Nat) (ys : List (RsnE)), ki = .int .i64 i ∧ ji = .int .i64 j ∧ i < j ∧ j ≤ n ∧ ys.length = n ∧ ys.take i = (xs.take j).filter (fun x => !p x) ∧ ys.drop j = xs.drop j ∧ Sat B D wr (ownS tRs 18 (.slice (some ⟨g, 0, none⟩) n cap) n (ys.flatMap cellsW) :: l)) (fun _ ji _ => n - (intOf ji).toNat)
 case atStart => exact ⟨m, m + 1, xs, rfl, by go_num, by omega, by omega, HN.out, HF0.out.symm, rfl, HS1.out⟩
 case round =>
  obtain ⟨i, j, ys, rfl, rfl, hij, hj, hyl, hyt, hyd, hs2⟩ := hrel
  have HYL := Lib.hid hyl
  have HYT := Lib.hid hyt
  have HYD := Lib.hid hyd
  have HS2 := Lib.hid hs2
  clear hyl hyt hyd hs2 HS1
  by_cases hlt : j < n
  ·have hji : (j : Int) < (n : Int) := by omega
   obtain ⟨x, hx⟩ : ∃ x, xs[j]? = some x := ⟨xs[j]'(by rw [HN.out]; exact hlt), List.getElem?_eq_getElem _⟩
   have hyx : ys[j]? = some x := by
    have h1 := congrArg (fun L => L[0]?) HYD.out
    simp only [List.getElem?_drop, Nat.add_zero] at h1
    rw [h1, hx]
   obtain ⟨g', o', hg', hrng⟩ := elem_range lenW (HS2.out.own 0 rfl).rd hyx HYL.out
   obtain ⟨rfl, rfl⟩ : g = g' ∧ 0 = o' := by cases hg'; exact ⟨rfl, rfl⟩
   rw [Nat.zero_add] at hrng
   have HL := Lib.hid (loadW hrng)
   clear hg' hrng hyx
   have HX := Lib.hid hx
   have hmem := List.mem_of_getElem? hx
   have HS3 := Lib.hid (HS2.out.alloc (cellsW x).toArray tRs)
   clear hx
   go_upto_region 8 with (first | (refine wpList_ld rfl _ _ rfl _ _ rfl _ HL.out ?_) | (refine wpList_store_new rfl _ _ _ rfl (cellsW x) _ _ rfl rfl (by kernel_rfl) rfl (oneW x) ?_))
   clear HL HS2
   obtain ⟨W3, hW3, hs3⟩ := Sat.hide HS3.out
   rw [← hW3]
   clear hW3 HS3
   generalize wr.heap.size = bx at hs3 ⊢
   have HL := Lib.hid (loadW (blk_range (hs3.blk 0 rfl)))
   have HC := Lib.hid (HFF.out x hmem W3 [_, _] hs3)
   have HS3 := Lib.hid hs3
   clear hs3 hmem
   have hent := HENT.out
   unfold Enters at hent
   cases hpx : p x
   ·rw [hpx] at HC
    have HPX := Lib.hid (filter_take_yes (q := fun x => !p x) HX.out (by simp [hpx]))
    clear hpx
    have hw2 : IntKind.i64.wrap ((i : Int) + 1) = (i : Int) + 1 := IntWalk.i64_in _ (by omega)
    have hin : i < n := by omega
    go_upto_region 9 with (first | (refine wpList_ld rfl _ _ rfl _ _ rfl _ HL.out ?_) | (refine HC.out.mono ?_; rintro e1 w1 ⟨rfl, hk1⟩; have HS4 := Lib.hid (HS3.out.kept hk1); clear hk1 HC HL HS3))
    clear hent
    have HL := Lib.hid (loadW (blk_range (HS4.out.blk 0 rfl)))
    go_wp2_with (first | (refine wpList_ld rfl _ _ rfl _ _ rfl _ HL.out ?_) | (refine wpList_store_elem lenW oneW rfl _ _ _ rfl tRs g _ i n cap rfl (by omega) x rfl ys HS4.out.swap (by kernel_rfl) hin HYL.out ?_; intro w5 hs5; have HS5 := Lib.hid hs5; clear hs5 HS4 HL))
    go_roundw
    case rel =>
     refine ⟨i + 1, j + 1, ys.set i x, by go_num, by go_num, by omega, by omega, by rw [List.length_set]; exact HYL.out, ?_, ?_, HS5.out.swap.drop⟩
     ·rw [HPX.out, ← HYT.out, take_set_succ (by rw [HYL.out]; exact hin)]
     ·rw [List.drop_set, if_pos (by omega), ← List.drop_drop, HYD.out, List.drop_drop]
    case measure => simp [intOf]; omega
   ·rw [hpx] at HC
    have HPX := Lib.hid (filter_take_no (q := fun x => !p x) HX.out (by simp [hpx]))
    clear hpx
    go_wp2_with (first | (refine wpList_ld rfl _ _ rfl _ _ rfl _ HL.out ?_) | (refine HC.out.mono ?_; rintro e1 w1 ⟨rfl, hk1⟩; have HS4 := Lib.hid (HS3.out.kept hk1); clear hk1 HC HL HS3))
    clear hent
    go_roundw
    case rel => exact ⟨i, j + 1, ys, rfl, by go_num, by omega, by omega, HYL.out, by rw [HPX.out, HYT.out], by rw [← List.drop_drop, HYD.out, List.drop_drop], HS4.out.drop⟩
    case measure => simp [intOf]; omega
  ·have hji : ¬ ((j : Int) < (n : Int)) := by omega
   have hin : i < n := by omega
   have hb0 : (i : Int) ≤ (n : Int) := by omega
   have hb1 : (n : Int) ≤ (cap : Int) := by omega
   have hb2 : (i : Int) ≤ (cap : Int) := by omega
   have hb3 : i < cap := by omega
   have hb4 : ¬ (cap = i) := by omega
   have hfin : ys.take i = xs.filter (fun x => !p x) := by rw [HYT.out, List.take_of_length_le (by rw [HN.out]; omega)]
   have HFIN := Lib.hid hfin
   have HLEN := Lib.hid (show (xs.filter (fun x => !p x)).length = i by rw [← hfin, List.length_take, HYL.out]; omega)
   obtain ⟨cur, h4, _, _, hcz, hct, _, _⟩ := HS2.out.own_row
   have H4 := Lib.hid h4
   have HCT := Lib.hid hct
   have HONE := Lib.hid (HS2.out.own 0 rfl).2.1
   clear h4 hct HS2 hfin
   go_wp2_with (show wpList _ _ _ (⟨none, .call _, _, _, _, _⟩ :: _) _ _; refine wpList_clear_Sat _ rfl _ 75 rfl tRs _ Tryz.underlying75 zeroV_W g _ (n - i) _ rfl cur H4.out (by omega) (by simp [size_zeroCells, Value.cells]; omega) (zeroCells_mem zone_W _) ?_; intro w5 h5; have H5 := Lib.hid h5; clear h5)
   go_ret
   refine ⟨_, rfl, ?_⟩
   rw [HLEN.out]
   refine H5.out.row_own (by omega) HCM.out (by rw [lay_len _ _ _ (by simp [size_zeroCells, Value.cells]; omega)]; exact hcz) ?_ ?_
   ·unfold lay
    rw [List.append_assoc, List.take_append_of_le_length (by rw [List.length_take]; omega), List.take_of_length_le (by rw [List.length_take]; omega), ← HFIN.out, ← flat_take lenW, ← HCT.out, List.take_take]
    congr 1
    omega
   ·intro u hu
    rw [← HFIN.out, ← flat_take lenW] at hu
    exact HONE.out u (List.mem_of_mem_take hu)
end Go.Proofs.YtgljdkjepdknnaaGreatDoor

/- DeleteFunc over claims. (printed by genlk.py) -/
namespace Go.Proofs.YtgljdkjepdknnaaGreatDoor
open Go.ChangeShapes Go.WideShapes Go.ChangeAt Go.RowKit
set_option maxRecDepth 100000
set_option linter.unusedSimpArgs false


theorem zone_Cl : ∀ u ∈ (Value.agg #[.int .i64 0, .int .i64 0, .int .i64 0, .bool false, .int .i64 0, .string ⟨#[]⟩, .slice none 0 0, .int .i64 0, .int .i64 0, .bool false, .int .i64 0, .string ⟨#[]⟩, .bool false, .int .i64 0, .string ⟨#[]⟩, .slice none 0 0]).cells.toList, u.oneCell' = true := by intro u hu; simp [Value.cells] at hu; rcases hu with rfl | rfl | rfl | rfl | rfl | rfl | rfl | rfl | rfl | rfl | rfl | rfl | rfl | rfl | rfl | rfl <;> rfl
theorem zeroV_Cl (w : World) : (zeroValue tCl).run Tryz.prog w = .ok (.agg #[.int .i64 0, .int .i64 0, .int .i64 0, .bool false, .int .i64 0, .string ⟨#[]⟩, .slice none 0 0, .int .i64 0, .int .i64 0, .bool false, .int .i64 0, .string ⟨#[]⟩, .bool false, .int .i64 0, .string ⟨#[]⟩, .slice none 0 0]) w := Tryz.zeroValue37 w
set_option maxHeartbeats 4000000 in
theorem deleteFunc_Cl {B w : World} {D : PH} {l : List HP} {v : Value} {n : Nat} {xs : List (ClmE)} {F : Nat} {caps : Array Value} (p : ClmE → Bool) (hn : xs.length = n) (hent : Enters Tryz.prog F) (hs : Sat B D w (ownS tCl 16 v n (xs.flatMap ClmE.cells) :: l))
  (HF : ∀ x ∈ xs, PredS B D l F caps (ClmE.cells x) (p x)) :
  Calls Tryz.prog 93 #[v, .func (.func F) #[] caps] w fun e w' => ∃ v', e = .returned v' ∧ Sat B D w' (ownS tCl 16 v' (xs.filter (fun x => !p x)).length ((xs.filter (fun x => !p x)).flatMap ClmE.cells) :: l) := by
 have hle := (hs.own 0 rfl).le
 obtain ⟨ao, cap, rfl, hnc, hcm, _⟩ := (hs.own 0 rfl).rd.2.2
 have hcm' := hcm
 unfold maxLen at hle hcm
 have HCM := Lib.hid hcm'
 have HN := Lib.hid hn
 have HIDX := Lib.hid (indexFunc_Cl p (by rw [hn]; exact (hs.own 0 rfl).rd) (fun x hx => ⟨hent, fun W hW => HF x hx W [_] (hs.kept hW)⟩))
 have HS := Lib.hid hs
 have HFF := Lib.hid HF
 have HENT := Lib.hid hent
 clear hs HF hn hent hcm'
 by_cases hall : ∀ y ∈ xs, p y = false
 ·have hi := idxI_none hall
  rw [hi] at HIDX
  have hfil : xs.filter (fun x => !p x) = xs := List.filter_eq_self.2 (fun x hx => by simp [hall x hx])
  have HFIL := Lib.hid hfil
  clear hall hi hfil
  go_enter Tryz.func93, Tryz.ntmps93
  go_wp2_with (go_at_call 130; refine HIDX.out.mono ?_; rintro e1 w1 ⟨rfl, hk1⟩; have HS1 := Lib.hid (HS.out.kept hk1); clear hk1 HS HIDX)
  go_ret
  exact ⟨_, rfl, by rw [HFIL.out, HN.out]; exact HS1.out⟩
 have hex : ∃ (m : Nat) (x : ClmE), xs[m]? = some x ∧ p x = true ∧ ∀ y ∈ xs.take m, p y = false := by
  cases hf : xs.findIdx? p with
  | none => exact absurd (List.findIdx?_eq_none_iff.1 hf) hall
  | some m =>
   obtain ⟨hlt, h1, h2⟩ := List.findIdx?_eq_some_iff_getElem.1 hf
   refine ⟨m, xs[m], List.getElem?_eq_getElem hlt, h1, fun y hy => ?_⟩
   obtain ⟨i, hi, rfl⟩ := List.mem_take_iff_getElem.1 hy
   have := h2 i (by omega)
   simpa using this
 obtain ⟨m, x0, hx0, hpx0, hbef⟩ := hex
 have hi := idxI_at hbef hx0 hpx0
 rw [hi] at HIDX
 have hm : m < n := by have := (List.getElem?_eq_some_iff.1 hx0).1; rw [HN.out] at this; exact this
 have hfm : (xs.take m).filter (fun x => !p x) = xs.take m := List.filter_eq_self.2 (fun x hx => by simp [hbef x hx])
 have hf0 : (xs.take (m + 1)).filter (fun x => !p x) = xs.take m := by rw [filter_take_no (q := fun x => !p x) hx0 (by simp [hpx0]), hfm]
 have HF0 := Lib.hid hf0
 clear hall hi hbef hx0 hpx0 hfm hf0
 have hw1 : IntKind.i64.wrap ((m : Int) + 1) = (m : Int) + 1 := IntWalk.i64_in _ (by omega)
 have hq1 : ((m : Int) == -1) = false := by simp
 obtain ⟨g, rfl⟩ : ∃ g, ao = some ⟨g, 0, none⟩ := by
  rcases (HS.out.own 0 rfl).2.2 with ⟨h1, h2⟩ | ⟨g, c2, cur, h1, _⟩
  ·omega
  ·cases h1; exact ⟨g, rfl⟩
 go_enter Tryz.func93, Tryz.ntmps93
 go_wp2_with (go_at_call 130; refine HIDX.out.mono ?_; rintro e1 w1 ⟨rfl, hk1⟩; have HS1 := Lib.hid (HS.out.kept hk1); clear hk1 HS HIDX)
 clear hw1 hq1
 go_loopw [5, 6] (fun ki ji wr => ∃ (i j : Nat) (ys : List (ClmE)), ki = .int .i64 i ∧ ji = .int .i64 j ∧ i < j ∧ j ≤ n ∧ ys.length = n ∧ ys.take i = (xs.take j).filter (fun x => !p x) ∧ ys.drop j = xs.drop j ∧ Sat B D wr (ownS tCl 16 (.slice (some ⟨g, 0, none⟩) n cap) n (ys.flatMap ClmE.cells) :: l)) (fun _ ji _ => n - (intOf ji).toNat)
 case atStart => exact ⟨m, m + 1, xs, rfl, by go_num, by omega, by omega, HN.out, HF0.out.symm, rfl, HS1.out⟩
 case round =>
  obtain ⟨i, j, ys, rfl, rfl, hij, hj, hyl, hyt, hyd, hs2⟩ := hrel
  have HYL := Lib.hid hyl
  have HYT := Lib.hid hyt
  have HYD := Lib.hid hyd
  have HS2 := Lib.hid hs2
  clear hyl hyt hyd hs2 HS1
  by_cases hlt : j < n
  ·have hji : (j : Int) < (n : Int) := by omega
   obtain ⟨x, hx⟩ : ∃ x, xs[j]? = some x := ⟨xs[j]'(by rw [HN.out]; exact hlt), List.getElem?_eq_getElem _⟩
   have hyx : ys[j]? = some x := by
    have h1 := congrArg (fun L => L[0]?) HYD.out
    simp only [List.getElem?_drop, Nat.add_zero] at h1
    rw [h1, hx]
   obtain ⟨g', o', hg', hrng⟩ := elem_range ClmE.len (HS2.out.own 0 rfl).rd hyx HYL.out
   obtain ⟨rfl, rfl⟩ : g = g' ∧ 0 = o' := by cases hg'; exact ⟨rfl, rfl⟩
   rw [Nat.zero_add] at hrng
   have HL := Lib.hid (loadCl hrng)
   clear hg' hrng hyx
   have HX := Lib.hid hx
   have hmem := List.mem_of_getElem? hx
   have HS3 := Lib.hid (HS2.out.alloc (ClmE.cells x).toArray tCl)
   clear hx
   go_upto_region 8 with (first | (refine wpList_ld rfl _ _ rfl _ _ rfl _ HL.out ?_) | (refine wpList_store_new rfl _ _ _ rfl (ClmE.cells x) _ _ rfl rfl (by kernel_rfl) rfl (ClmE.one x) ?_))
   clear HL HS2
   obtain ⟨W3, hW3, hs3⟩ := Sat.hide HS3.out
   rw [← hW3]
   clear hW3 HS3
   generalize wr.heap.size = bx at hs3 ⊢
   have HL := Lib.hid (loadCl (blk_range (hs3.blk 0 rfl)))
   have HC := Lib.hid (HFF.out x hmem W3 [_, _] hs3)
   have HS3 := Lib.hid hs3
   clear hs3 hmem
   have hent := HENT.out
   unfold Enters at hent
   cases hpx : p x
   ·rw [hpx] at HC
    have HPX := Lib.hid (filter_take_yes (q := fun x => !p x) HX.out (by simp [hpx]))
    clear hpx
    have hw2 : IntKind.i64.wrap ((i : Int) + 1) = (i : Int) + 1 := IntWalk.i64_in _ (by omega)
    have hin : i < n := by omega
    go_upto_region 9 with (first | (refine wpList_ld rfl _ _ rfl _ _ rfl _ HL.out ?_) | (refine HC.out.mono ?_; rintro e1 w1 ⟨rfl, hk1⟩; have HS4 := Lib.hid (HS3.out.kept hk1); clear hk1 HC HL HS3))
    clear hent
    have HL := Lib.hid (loadCl (blk_range (HS4.out.blk 0 rfl)))
    go_wp2_with (first | (refine wpList_ld rfl _ _ rfl _ _ rfl _ HL.out ?_) | (refine wpList_store_elem ClmE.len ClmE.one rfl _ _ _ rfl tCl g _ i n cap rfl (by omega) x rfl ys HS4.out.swap (by kernel_rfl) hin HYL.out ?_; intro w5 hs5; have HS5 := Lib.hid hs5; clear hs5 HS4 HL))
    go_roundw
    case rel =>
     refine ⟨i + 1, j + 1, ys.set i x, by go_num, by go_num, by omega, by omega, by rw [List.length_set]; exact HYL.out, ?_, ?_, HS5.out.swap.drop⟩
     ·rw [HPX.out, ← HYT.out, take_set_succ (by rw [HYL.out]; exact hin)]
     ·rw [List.drop_set, if_pos (by omega), ← List.drop_drop, HYD.out, List.drop_drop]
    case measure => simp [intOf]; omega
   ·rw [hpx] at HC
    have HPX := Lib.hid (filter_take_no (q := fun x => !p x) HX.out (by simp [hpx]))
    clear hpx
    go_wp2_with (first | (refine wpList_ld rfl _ _ rfl _ _ rfl _ HL.out ?_) | (refine HC.out.mono ?_; rintro e1 w1 ⟨rfl, hk1⟩; have HS4 := Lib.hid (HS3.out.kept hk1); clear hk1 HC HL HS3))
    clear hent
    go_roundw
    case rel => exact ⟨i, j + 1, ys, rfl, by go_num, by omega, by omega, HYL.out, by rw [HPX.out, HYT.out], by rw [← List.drop_drop, HYD.out, List.drop_drop], HS4.out.drop⟩
    case measure => simp [intOf]; omega
  ·have hji : ¬ ((j : Int) < (n : Int)) := by omega
   have hin : i < n := by omega
   have hb0 : (i : Int) ≤ (n : Int) := by omega
   have hb1 : (n : Int) ≤ (cap : Int) := by omega
   have hb2 : (i : Int) ≤ (cap : Int) := by omega
   have hb3 : i < cap := by omega
   have hb4 : ¬ (cap = i) := by omega
   have hfin : ys.take i = xs.filter (fun x => !p x) := by rw [HYT.out, List.take_of_length_le (by rw [HN.out]; omega)]
   have HFIN := Lib.hid hfin
   have HLEN := Lib.hid (show (xs.filter (fun x => !p x)).length = i by rw [← hfin, List.length_take, HYL.out]; omega)
   obtain ⟨cur, h4, _, _, hcz, hct, _, _⟩ := HS2.out.own_row
   have H4 := Lib.hid h4
   have HCT := Lib.hid hct
   have HONE := Lib.hid (HS2.out.own 0 rfl).2.1
   clear h4 hct HS2 hfin
   go_wp2_with (show wpList _ _ _ (⟨none, .call _, _, _, _, _⟩ :: _) _ _; refine wpList_clear_Sat _ rfl _ 45 rfl tCl _ Tryz.underlying45 zeroV_Cl g _ (n - i) _ rfl cur H4.out (by omega) (by simp [size_zeroCells, Value.cells]; omega) (zeroCells_mem zone_Cl _) ?_; intro w5 h5; have H5 := Lib.hid h5; clear h5)
   go_ret
   refine ⟨_, rfl, ?_⟩
   rw [HLEN.out]
   refine H5.out.row_own (by omega) HCM.out (by rw [lay_len _ _ _ (by simp [size_zeroCells, Value.cells]; omega)]; exact hcz) ?_ ?_
   ·unfold lay
    rw [List.append_assoc, List.take_append_of_le_length (by rw [List.length_take]; omega), List.take_of_length_le (by rw [List.length_take]; omega), ← HFIN.out, ← flat_take ClmE.len, ← HCT.out, List.take_take]
    congr 1
    omega
   ·intro u hu
    rw [← HFIN.out, ← flat_take ClmE.len] at hu
    exact HONE.out u (List.mem_of_mem_take hu)
end Go.Proofs.YtgljdkjepdknnaaGreatDoor
