/- Rows and tables (row): Check, Fits, Clone. -/
import Derived.Test.YtcbklkcpjldcjaaJ3
import Derived.Test.YtcbklkcpjldcjaaJ4
import Derived.Test.YtcbklkcpjldcjaaJ5
namespace Go.Proofs.Ytcbklkcpjldcjaa
open Go.ChangeShapes Go.WideShapes Go.ChangeAt Go.RowKit
set_option maxRecDepth 100000
set_option linter.unusedSimpArgs false

abbrev tR : TypeId := 32
abbrev tRs : TypeId := 40
abbrev tB : TypeId := 4
abbrev tBs : TypeId := 25
abbrev tTab : TypeId := 27
abbrev tTabs : TypeId := 30
def bcells (b : Bool) : List Value := [.bool b]
theorem blen (b : Bool) : (bcells b).length = 1 := rfl
theorem bone (b : Bool) : ∀ u ∈ bcells b, u.oneCell' = true := by intro u hu; simp [bcells] at hu; subst hu; rfl
/-- a row of values is read; a table's columns are read -/
abbrev RowRd (w : World) (v : Value) (r : List Val) : Prop := Rd w 3 v r.length (r.flatMap Val.cells)
abbrev ColRd (w : World) (v : Value) (c : List Bool) : Prop := Rd w 1 v c.length (c.flatMap bcells)
def mayT (c : List Bool) : Bool := decide (1 ≤ c.length) && decide (c.length ≤ 4)
def chk (c : List Bool) : Int := if mayT c then 0 else 1
def fitAt (c : List Bool) (r : List Val) (n : Nat) : Bool := ((r.zip c).take n).all fun p => decide (p.1.t = p.2) && valRight p.1
def fitsT (c : List Bool) (r : List Val) : Bool := mayT c && decide (r.length = c.length) && fitAt c r r.length

theorem col_cell {w : World} {g o n c i : Nat} {x : Bool} {cs : List Bool} (h : Rd w 1 (.slice (some ⟨g, o, none⟩) n c) n (cs.flatMap bcells)) (hi : cs[i]? = some x) : w.cell? ⟨g, o + i, none⟩ = some (.bool x) := by
  have hlt := (List.getElem?_eq_some_iff.1 hi).1
  rcases h.2.2 with ⟨_, _, hv, _, _, _, hcell⟩
  cases hv
  rcases hcell with h0 | ⟨_, _, hg, hc⟩
  · have := h.1
    rw [flat_len blen] at this
    omega
  · cases hg
    have := hc _ _ (flat_get blen cs i x hi 0 _ rfl)
    simpa using this
theorem col_src {w : World} {ao : Option Addr} {N cap k : Nat} {xs : List Bool} {x : Bool} (h : Rd w 1 (.slice ao N cap) N (xs.flatMap bcells)) (hx : xs[k]? = some x) (hl : xs.length = N) : ∃ g og, ao = some ⟨g, og, none⟩ := by
  have hlt := (List.getElem?_eq_some_iff.1 hx).1
  rcases h.2.2 with ⟨_, _, hv, _, _, _, hc⟩
  cases hv
  rcases hc with h0 | ⟨g, o, hg, _⟩
  · omega
  · exact ⟨g, o, hg⟩
theorem row_src {w : World} {ao : Option Addr} {N cap k : Nat} {xs : List Val} {x : Val} (h : Rd w 3 (.slice ao N cap) N (xs.flatMap Val.cells)) (hx : xs[k]? = some x) (hl : xs.length = N) : ∃ g og, ao = some ⟨g, og, none⟩ := by
  have hlt := (List.getElem?_eq_some_iff.1 hx).1
  rcases h.2.2 with ⟨_, _, hv, _, _, _, hc⟩
  cases hv
  rcases hc with h0 | ⟨g, o, hg, _⟩
  · omega
  · exact ⟨g, o, hg⟩
theorem fitAt_succ {c : List Bool} {r : List Val} {j : Nat} {x : Val} {b : Bool} (hx : r[j]? = some x) (hb : c[j]? = some b) : fitAt c r (j + 1) = (fitAt c r j && (decide (x.t = b) && valRight x)) := by
  have hz : (r.zip c)[j]? = some (x, b) := by rw [List.getElem?_zip_eq_some]; exact ⟨hx, hb⟩
  unfold fitAt
  rw [List.take_add_one, hz, List.all_append]
  simp
theorem fitAt_less {c : List Bool} {r : List Val} {j n : Nat} (h : j ≤ n) (hf : fitAt c r j = false) : fitAt c r n = false := by
  unfold fitAt at *
  rw [List.all_eq_false] at *
  obtain ⟨p, hp, h2⟩ := hf
  exact ⟨p, (List.take_subset_take_left (r.zip c) h) hp, h2⟩

theorem Check_ok {w : World} {cv : Value} {c : List Bool} (h : ColRd w cv c) : Calls Try.prog 28 #[.agg #[cv]] w fun e w' => e = .returned (.int .i64 (chk c)) ∧ Kept (fun _ => False) w w' := by
  obtain ⟨_, m1, ao, cap, rfl, _⟩ := h
  have HK := Lib.hid (show Kept (fun _ => False) w (w.alloc (.cells #[.slice ao c.length cap] tTab)) from (Kept.refl _ _).alloc _)
  by_cases h1 : 1 ≤ c.length
  · by_cases h2 : c.length ≤ 4
    · have HM := Lib.hid (show chk c = 0 by simp [chk, mayT, h1, h2])
      have e1 : ¬ ((c.length : Int) < 1) := by omega
      have e2 : ¬ ((c.length : Int) > 4) := by omega
      go_enter Try.func28, Try.ntmps28
      go_wp2_with fail
      go_ret
      rw [HM.out]
      exact ⟨rfl, HK.out⟩
    · have HM := Lib.hid (show chk c = 1 by simp [chk, mayT, h2])
      have e1 : ¬ ((c.length : Int) < 1) := by omega
      have e2 : ((c.length : Int) > 4) := by omega
      go_enter Try.func28, Try.ntmps28
      go_wp2_with fail
      go_ret
      rw [HM.out]
      exact ⟨rfl, HK.out⟩
  · have HM := Lib.hid (show chk c = 1 by simp [chk, mayT, h1])
    have e1 : ((c.length : Int) < 1) := by omega
    go_enter Try.func28, Try.ntmps28
    go_wp2_with fail
    go_ret
    rw [HM.out]
    exact ⟨rfl, HK.out⟩

set_option maxHeartbeats 4000000 in
theorem Fits_ok {w : World} {cv rv : Value} {c : List Bool} {r : List Val} (hc : ColRd w cv c) (hr : RowRd w rv r) : Calls Try.prog 47 #[.agg #[cv], rv] w fun e w' => e = .returned (.bool (fitsT c r)) ∧ Kept (fun _ => False) w w' := by
  have hk1 : Kept (fun _ => False) w (w.alloc (.cells #[cv] tTab)) := (Kept.refl _ _).alloc _
  have hb1 : (w.alloc (.cells #[cv] tTab)).heap[w.heap.size]? = some (.cells #[cv] tTab (0, 0)) := heap_alloc_self w _
  have HC := Lib.hid (Rd.kept hc hk1 (fun _ _ h => h))
  have HR := Lib.hid (Rd.kept hr hk1 (fun _ _ h => h))
  have HK1 := Lib.hid hk1
  have HB1 := Lib.hid hb1
  obtain ⟨-, m1, co, ccap, rfl, -⟩ := hc
  obtain ⟨-, m2, ro, rcap, rfl, -⟩ := hr
  clear hk1 hb1
  go_enter Try.func47, Try.ntmps47
  go_upto_region 1 with (fail)
  obtain ⟨W, hW⟩ : ∃ W, W = w.alloc (.cells #[.slice co c.length ccap] tTab) := ⟨_, rfl⟩
  rw [← hW] at HC HR HK1 HB1 ⊢
  generalize w.heap.size = bt at HB1 ⊢
  clear hW
  obtain ⟨b0, bf⟩ := cells1 HB1.out
  have HCH := Lib.hid (Check_ok HC.out)
  cases hm : mayT c
  · have HM := Lib.hid (show chk c = 1 by simp [chk, hm])
    have HF := Lib.hid (show fitsT c r = false by simp [fitsT, hm])
    clear hm
    go_wp2_with ((go_at_call 28; refine HCH.out.mono ?_; rw [HM.out]; rintro e1 w1 ⟨rfl, hk2⟩; have HK2 := Lib.hid hk2; clear hk2 b0 bf))
    go_ret
    rw [HF.out]
    exact ⟨rfl, HK1.out.trans HK2.out (fun _ h => h.elim)⟩
  have HM := Lib.hid (show chk c = 0 by simp [chk, hm])
  by_cases hl : r.length = c.length
  · obtain ⟨N, hN⟩ : ∃ N, r.length = N := ⟨_, rfl⟩
    have HF := Lib.hid (show fitsT c r = fitAt c r N by unfold fitsT; rw [hm, decide_eq_true hl, hN]; rfl)
    have HN := Lib.hid hN
    have hcn : c.length = N := by omega
    have HCN := Lib.hid hcn
    rw [hcn] at HC HCH HB1 b0 m1 ⊢
    rw [hN] at HR m2 ⊢
    unfold maxLen at m1 m2
    clear hm hl hN hcn
    go_upto_region 3 with ((go_at_call 28; refine HCH.out.mono ?_; rw [HM.out]; rintro e1 w1 ⟨rfl, hk2⟩; have HK2 := Lib.hid hk2; clear hk2 b0 bf; have hb1 := (HK2.out.block _ (lt_of_heap HB1.out) (fun h => h)).trans HB1.out; obtain ⟨b0, bf⟩ := cells1 hb1; have HB2 := Lib.hid hb1; clear hb1))
    have HC2 := Lib.hid (Rd.kept HC.out HK2.out (fun _ _ h => h))
    have HR2 := Lib.hid (Rd.kept HR.out HK2.out (fun _ _ h => h))
    have HK3 := Lib.hid (HK1.out.trans HK2.out (fun _ h => h.elim))
    clear HC HR HB1 HCH HM HK1 HK2
    go_wp2_with fail
    clear b0 bf
    go_loopw [20] (fun idx wr => ∃ j : Nat, idx = .int .i64 j ∧ j ≤ N ∧ fitAt c r j = true ∧ Kept (fun _ => False) w1 wr) (fun idx _ => N - (intOf idx).toNat)
    case atStart => exact ⟨0, rfl, Nat.zero_le _, by simp [fitAt], Kept.refl _ _⟩
    case round =>
      obtain ⟨j, rfl, hj, hno, hkr⟩ := hrel
      by_cases hlt : j < N
      · obtain ⟨x, hx⟩ : ∃ x, r[j]? = some x := ⟨r[j]'(by rw [HN.out]; exact hlt), List.getElem?_eq_getElem _⟩
        obtain ⟨b, hb⟩ : ∃ b, c[j]? = some b := ⟨c[j]'(by rw [HCN.out]; exact hlt), List.getElem?_eq_getElem _⟩
        have hrr := Rd.kept HR2.out hkr (fun _ _ h => h)
        obtain ⟨rg, rog, rfl⟩ := row_src hrr hx HN.out
        obtain ⟨cg, cog, rfl⟩ := col_src HC2.out hb HCN.out
        obtain ⟨y0, y1, y2⟩ := key_cells hrr hx
        have hk3 : Kept (fun _ => False) wr (wr.alloc (.cells #[.bool x.t, .int .i64 x.n, .string x.s] tV)) := (Kept.refl _ _).alloc _
        have hb3 : (wr.alloc (.cells #[.bool x.t, .int .i64 x.n, .string x.s] tV)).heap[wr.heap.size]? = some (.cells #[.bool x.t, .int .i64 x.n, .string x.s] tV (0, 0)) := heap_alloc_self wr _
        have hk4 := hkr.trans hk3 (fun _ h => h.elim)
        have HB3 := Lib.hid hb3
        have HK4 := Lib.hid hk4
        have HSUC := Lib.hid (fitAt_succ hx hb)
        have HNO := Lib.hid hno
        have HBC := Lib.hid hb
        have hib : (j : Int) < (N : Int) := by omega
        clear hx hb hrr hk3 hb3 hk4 hno hkr
        go_upto_region 6 with (fail)
        obtain ⟨W3, hW3⟩ : ∃ W3, W3 = wr.alloc (.cells #[.bool x.t, .int .i64 x.n, .string x.s] tV) := ⟨_, rfl⟩
        rw [← hW3] at HB3 HK4 ⊢
        generalize wr.heap.size = bk at HB3 ⊢
        clear hW3 y0 y1 y2
        obtain ⟨x0, x1, x2, xf⟩ := cells3 HB3.out
        obtain ⟨b0, bf⟩ := cells1 ((HK4.out.block _ (lt_of_heap HB2.out) (fun h => h)).trans HB2.out)
        have hcc := col_cell (Rd.kept HC2.out HK4.out (fun _ _ h => h)) HBC.out
        by_cases hxt : x.t = b
        · subst hxt
          cases hv : valRight x
          · have HV := Lib.hid hv
            have HFF := Lib.hid (show fitAt c r N = false from fitAt_less (show j + 1 ≤ N by omega) (by rw [HSUC.out, hv]; simp))
            clear hv
            refine wp_region_canon [(0, false, 10), (1, false, 10), (2, false, 10), (3, false, 10), (4, false, 10), (5, false, 10), (6, false, 10), (7, false, 10), (8, false, 10), (9, false, 10), (10, true, 0), (11, false, 999), (12, false, 999)] (by kernel_rfl) (by kernel_rfl) ?_
            iterate 9 (refine wpCan_read rfl rfl (fun K hK => ?_); go_simp; refine hK _ ?_; clear hK K)
            first | (refine wpCan_no rfl rfl ?_; simp only [Act.put, List.setIfInBounds_toArray, List.set_cons_succ, List.set_cons_zero, List.getElem_toArray, List.getElem_cons_succ, List.getElem_cons_zero]) | (refine wpCan_yes rfl rfl (fun K hK => ?_); go_simp; refine hK _ ?_; clear hK K)
            refine wpCan_eff rfl ?_
            refine wpList_do rfl (fun K hK => ?_)
            go_simp
            refine (right_ok x _).mono ?_
            rintro e4 w4 ⟨rfl, hk5⟩
            rw [HV.out]
            have HK5 := Lib.hid (((HK3.out.trans HK4.out (fun _ h => h.elim)).trans ((Kept.refl (fun _ => False) W3).drew) (fun _ h => h.elim)).trans hk5 (fun _ h => h.elim))
            clear hk5 x0 x1 x2 xf b0 bf hcc
            refine hK _ _ ?_
            clear hK K
            refine wpList_nil ?_
            refine And.intro ?_ ?_
            · go_simp
            first | (refine wpCan_no rfl rfl ?_; simp only [Act.put, List.setIfInBounds_toArray, List.set_cons_succ, List.set_cons_zero, List.getElem_toArray, List.getElem_cons_succ, List.getElem_cons_zero]) | (refine wpCan_yes rfl rfl (fun K hK => ?_); go_simp; refine hK _ ?_; clear hK K)
            iterate 1 (refine wpCan_read rfl rfl (fun K hK => ?_); go_simp; refine hK _ ?_; clear hK K)
            refine wpCan_nil ?_
            go_wp2_with fail
            go_ret
            rw [HF.out, HFF.out]
            exact ⟨rfl, HK5.out⟩
          · have HV := Lib.hid hv
            have HFF := Lib.hid (show fitAt c r (j + 1) = true by rw [HSUC.out, hv, HNO.out]; simp)
            clear hv
            refine wp_region_canon [(0, false, 10), (1, false, 10), (2, false, 10), (3, false, 10), (4, false, 10), (5, false, 10), (6, false, 10), (7, false, 10), (8, false, 10), (9, false, 10), (10, true, 0), (11, false, 999), (12, false, 999)] (by kernel_rfl) (by kernel_rfl) ?_
            iterate 9 (refine wpCan_read rfl rfl (fun K hK => ?_); go_simp; refine hK _ ?_; clear hK K)
            first | (refine wpCan_no rfl rfl ?_; simp only [Act.put, List.setIfInBounds_toArray, List.set_cons_succ, List.set_cons_zero, List.getElem_toArray, List.getElem_cons_succ, List.getElem_cons_zero]) | (refine wpCan_yes rfl rfl (fun K hK => ?_); go_simp; refine hK _ ?_; clear hK K)
            refine wpCan_eff rfl ?_
            refine wpList_do rfl (fun K hK => ?_)
            go_simp
            refine (right_ok x _).mono ?_
            rintro e4 w4 ⟨rfl, hk5⟩
            rw [HV.out]
            have HK5 := Lib.hid ((HK4.out.trans ((Kept.refl (fun _ => False) W3).drew) (fun _ h => h.elim)).trans hk5 (fun _ h => h.elim))
            clear hk5 x0 x1 x2 xf b0 bf hcc
            refine hK _ _ ?_
            clear hK K
            refine wpList_nil ?_
            refine And.intro ?_ ?_
            · go_simp
            first | (refine wpCan_no rfl rfl ?_; simp only [Act.put, List.setIfInBounds_toArray, List.set_cons_succ, List.set_cons_zero, List.getElem_toArray, List.getElem_cons_succ, List.getElem_cons_zero]) | (refine wpCan_yes rfl rfl (fun K hK => ?_); go_simp; refine hK _ ?_; clear hK K)
            iterate 1 (refine wpCan_read rfl rfl (fun K hK => ?_); go_simp; refine hK _ ?_; clear hK K)
            refine wpCan_nil ?_
            go_wp2_with fail
            go_roundw
            case rel => exact ⟨j + 1, by go_num, by omega, HFF.out, HK5.out⟩
            case measure => simp [intOf]; omega
        · obtain rfl : b = !x.t := by cases b <;> cases h : x.t <;> simp_all
          have HFF := Lib.hid (show fitAt c r N = false from fitAt_less (show j + 1 ≤ N by omega) (by rw [HSUC.out]; simp))
          clear hxt
          refine wp_region_canon [(0, false, 10), (1, false, 10), (2, false, 10), (3, false, 10), (4, false, 10), (5, false, 10), (6, false, 10), (7, false, 10), (8, false, 10), (9, false, 10), (10, true, 0), (11, false, 999), (12, false, 999)] (by kernel_rfl) (by kernel_rfl) ?_
          iterate 9 (refine wpCan_read rfl rfl (fun K hK => ?_); go_simp; refine hK _ ?_; clear hK K)
          first | (refine wpCan_no rfl rfl ?_; simp only [Act.put, List.setIfInBounds_toArray, List.set_cons_succ, List.set_cons_zero, List.getElem_toArray, List.getElem_cons_succ, List.getElem_cons_zero]) | (refine wpCan_yes rfl rfl (fun K hK => ?_); go_simp; refine hK _ ?_; clear hK K)
          refine wpCan_eff rfl ?_
          refine wpList_not rfl ?_
          simp only [Act.put, List.setIfInBounds_toArray, List.set_cons_succ, List.set_cons_zero]
          refine wpList_nil ?_
          refine And.intro ?_ ?_
          · go_simp
          first | (refine wpCan_no rfl rfl ?_; simp only [Act.put, List.setIfInBounds_toArray, List.set_cons_succ, List.set_cons_zero, List.getElem_toArray, List.getElem_cons_succ, List.getElem_cons_zero]) | (refine wpCan_yes rfl rfl (fun K hK => ?_); go_simp; refine hK _ ?_; clear hK K)
          iterate 1 (refine wpCan_read rfl rfl (fun K hK => ?_); go_simp; refine hK _ ?_; clear hK K)
          refine wpCan_nil ?_
          have HK5 := Lib.hid ((HK3.out.trans HK4.out (fun _ h => h.elim)).trans ((Kept.refl (fun _ => False) W3).drew) (fun _ h => h.elim))
          go_wp2_with fail
          go_ret
          rw [HF.out, HFF.out]
          exact ⟨rfl, HK5.out⟩
      · obtain rfl : j = N := by omega
        have HFF := Lib.hid hno
        have HK9 := Lib.hid (HK3.out.trans hkr (fun _ h => h.elim))
        clear hno hkr
        go_wp2_with fail
        go_ret
        rw [HF.out, HFF.out]
        exact ⟨rfl, HK9.out⟩
  · have HF := Lib.hid (show fitsT c r = false by unfold fitsT; rw [hm, decide_eq_false hl]; rfl)
    have hl' : ¬ ((r.length : Int) = (c.length : Int)) := by omega
    clear hm hl
    go_wp2_with ((go_at_call 28; refine HCH.out.mono ?_; rw [HM.out]; rintro e1 w1 ⟨rfl, hk2⟩; have HK2 := Lib.hid hk2; clear hk2 b0 bf; obtain ⟨b0, bf⟩ := cells1 ((HK2.out.block _ (lt_of_heap HB1.out) (fun h => h)).trans HB1.out)))
    go_ret
    rw [HF.out]
    exact ⟨rfl, HK1.out.trans HK2.out (fun _ h => h.elim)⟩

set_option maxHeartbeats 1000000 in
theorem clone_Row {B w : World} {D : PH} {l : List HP} {v : Value} {n : Nat} {xs : List Value} (hrd : Rd w 3 v n xs) (hone : ∀ u ∈ xs, u.oneCell' = true) (hb : n * 32 ≤ 140737488355328) (hs : Sat B D w l) :
    Calls Try.prog 49 #[v] w fun e w' => ∃ v', e = .returned v' ∧ Sat B D w' (ownS tV 3 v' n xs :: l) := by
  obtain ⟨i0, hi, hz0, hz1, hz2⟩ := info_parts infoVal
  have hm := hrd.2.1
  obtain ⟨ao, cap, rfl, _, _, hnone, hcase⟩ := hrd.2.2
  cases ao with
  | none =>
    have h0 : n = 0 := by rcases hcase with h | ⟨g, o, h, _⟩; exact h; cases h
    subst h0
    have hx : xs = [] := List.eq_nil_of_length_eq_zero (by simpa using hrd.1)
    subst hx
    have HS := Lib.hid (hs.own_nil tV 3)
    clear hcase hnone hrd hz0 hz1 hz2 hi hb hs
    go_enter Try.func49, Try.ntmps49
    go_wp2_with fail
    go_ret
    exact ⟨_, rfl, HS.out⟩
  | some a =>
    have hown := Sat.own_fresh (e := tV) (size := 3) (n := 0) (cap := 0) (cs := #[]) (xs := []) hs (by omega) (by omega) (by simp) (by simp) (by simp)
    have hrd2 : Rd (w.alloc (.cells #[] tV)) 3 (.slice (some a) n cap) n xs := hrd.kept ((Kept.refl (fun _ => False) _).alloc _) (fun _ _ h => h)
    have HO := Lib.hid hown
    have HR := Lib.hid hrd2
    have HI := Lib.hid (And.intro hi (And.intro hz0 (And.intro hz1 hz2)))
    clear hcase hnone hrd hz0 hz1 hz2 hi hs hown hrd2
    go_enter Try.func49, Try.ntmps49
    go_wp2_with (at_builtin; refine wpList_append_Sat _ rfl _ _ 32 rfl tV i0 _ 3 32 Try.underlying32 HI.out.1 HI.out.2.1 HI.out.2.2.1 HI.out.2.2.2 rfl _ 0 [] rfl HO.out _ n xs rfl HR.out hone (by omega) (by omega) ?_; intro v' w' h1 h2; simp only [Nat.zero_add, List.nil_append] at h1; have H1 := Lib.hid h1; clear h1 h2)
    go_ret
    exact ⟨_, rfl, H1.out⟩

theorem rclone_ok {B w : World} {D : PH} {l : List HP} {v : Value} {r : List Val} (hrd : RowRd w v r) (hb : r.length ≤ 1000) (hs : Sat B D w l) :
    Calls Try.prog 36 #[v] w fun e w' => ∃ v', e = .returned v' ∧ Sat B D w' (ownS tV 3 v' r.length (r.flatMap Val.cells) :: l) := by
  have HC := Lib.hid (clone_Row hrd (fun u hu => by obtain ⟨x, _, hx⟩ := List.mem_flatMap.1 hu; exact Val.one x u hx) (by omega) hs)
  clear hrd hs
  go_enter Try.func36, Try.ntmps36
  go_wp2_with ((go_at_call 49; refine HC.out.mono ?_; rintro e1 w1 ⟨v1, rfl, hs1⟩; have HS1 := Lib.hid hs1; clear hs1))
  go_ret
  exact ⟨_, rfl, HS1.out⟩
end Go.Proofs.Ytcbklkcpjldcjaa
