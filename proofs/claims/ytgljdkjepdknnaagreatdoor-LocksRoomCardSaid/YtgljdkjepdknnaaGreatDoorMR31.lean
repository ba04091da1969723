/- Joined texts: Whether a claim may be on these tables (claim.Check): a table's, a row's; a predicate's. Whether a claim may be (claim.Check). -/
import Derived.Test.YtgljdkjepdknnaaGreatDoorMR30
import Derived.Test.YtgljdkjepdknnaaGreatDoorMR11
import Derived.Test.YtgljdkjepdknnaaGreatDoorMR27
/- Whether a claim may be on these tables (claim.Check): a table's, a row's; a predicate's. -/
namespace Go.Proofs.YtgljdkjepdknnaaGreatDoor
open Go.ChangeShapes Go.WideShapes Go.ChangeAt Go.RowKit
set_option maxRecDepth 100000
set_option linter.unusedSimpArgs false

def imgOk (c : List Bool) (k : Val) (r : List Val) : Bool := r.isEmpty || (fitsT c r && decide (r.head? = some k))
def onRowK (c : List Bool) (x : Clm) : Bool := valRight x.key && decide (x.key.t = c.getD 0 false) && (if x.mode = 3 ∨ x.mode = 5 then x.imgs.isEmpty else if x.mode = 6 then x.imgs.all (imgOk c x.key) else false)
def kindK (c : List Bool) (x : Clm) : Bool := if x.kind = 1 then modeR x.mode && !decide (x.mode = 0) else if x.kind = 2 then onRowK c x else if x.kind = 3 then decide (x.mode = 3) && predMay c x.pred else false
/-- may a claim be? -/
def mayK (ts : List (List Bool)) (x : Clm) : Bool := decide (0 ≤ x.table) && decide (x.table < (ts.length : Int)) && mayT (ts.getD x.table.toNat []) && kindK (ts.getD x.table.toNat []) x
theorem boxKey {w : World} {b : Nat} {x : ClmE} {t : TypeId} {fr : Nat × Nat} (h : w.heap[b]? = some (.cells x.cells.toArray t fr)) : w.cell? ⟨b, 3, none⟩ = some (.bool x.key.t) ∧ w.cell? ⟨b, 4, none⟩ = some (.int .i64 x.key.n) ∧ w.cell? ⟨b, 5, none⟩ = some (.string x.key.s) := by
 refine ⟨?_, ?_, ?_⟩ <;> simp [World.cell?, h, ClmE.cells]
set_option maxHeartbeats 4000000 in
theorem onRow1F {w : World} {bt bc : Nat} {cv : Value} {c : List Bool} {x : ClmE} (h1 : w.heap[bt]? = some (.cells #[cv] tTab (0, 0))) (h2 : w.heap[bc]? = some (.cells x.cells.toArray tCl (0, 0))) (hc : ColRd w cv c) (r : List Val) :
  PredR 123 #[.pointer (some ⟨bt, 0, none⟩), .pointer (some ⟨bc, 0, none⟩)] w r (imgOk c x.key r) := by
 refine ⟨enters_of Tryz.func123 (by kernel_rfl) rfl, fun W hv hW hr => ?_⟩
 obtain ⟨t0, tf⟩ := cells1 (kept_blk hW.drew h1)
 have HB2 := Lib.hid (kept_blk hW h2)
 have HC := Lib.hid (Rd.kept hc hW.drew (fun _ _ h => h))
 have HR := Lib.hid (Rd.kept hr (Kept.refl (fun _ => False) W).drew (fun _ _ h => h))
 obtain ⟨_, m1, ra, rc, rfl, _⟩ := hr
 unfold maxLen at m1
 clear hW h1 h2 hc
 show Calls Tryz.prog 123 #[.slice ra r.length rc, .pointer (some ⟨bt, 0, none⟩), .pointer (some ⟨bc, 0, none⟩)] W _
 have HKD := Lib.hid ((Kept.refl (fun _ => False) W).drew)
 cases r with
 | nil =>
  have HO := Lib.hid (show imgOk c x.key [] = true from rfl)
  rw [HO.out]
  clear HR HC HO
  go_enter Tryz.func123, Tryz.ntmps123
  go_upto_region 1 with fail
  refine wp_region_canon [(0, false, 6), (1, false, 6), (2, false, 6), (3, false, 6), (4, false, 6), (5, false, 6), (6, true, 0), (7, false, 999), (8, false, 999), (9, false, 999), (10, false, 999), (11, false, 999), (12, false, 999), (13, false, 999), (14, false, 999), (15, false, 999), (16, false, 999)] (by kernel_rfl) (by kernel_rfl) ?_
  iterate 4 (refine wpCan_read rfl rfl (fun K hK => ?_); go_simp; refine hK _ ?_; clear hK K)
  iterate 2 (first | (refine wpCan_no rfl rfl ?_; simp only [Act.put, List.setIfInBounds_toArray, List.set_cons_succ, List.set_cons_zero, List.getElem_toArray, List.getElem_cons_succ, List.getElem_cons_zero]) | (refine wpCan_yes rfl rfl (fun K hK => ?_); go_simp; refine hK _ ?_; clear hK K))
  refine wpCan_eff rfl ?_
  refine wpList_not rfl ?_
  simp only [Act.put, List.setIfInBounds_toArray, List.set_cons_succ, List.set_cons_zero]
  refine wpList_nil ?_
  refine And.intro ?_ ?_
  ·go_simp
  iterate 8 (first | (refine wpCan_no rfl rfl ?_; simp only [Act.put, List.setIfInBounds_toArray, List.set_cons_succ, List.set_cons_zero, List.getElem_toArray, List.getElem_cons_succ, List.getElem_cons_zero]) | (refine wpCan_yes rfl rfl (fun K hK => ?_); go_simp; refine hK _ ?_; clear hK K))
  iterate 2 (refine wpCan_read rfl rfl (fun K hK => ?_); go_simp; refine hK _ ?_; clear hK K)
  refine wpCan_nil ?_
  go_wp2_with fail
  go_ret
  exact ⟨rfl, HKD.out⟩
 | cons y r =>
  have HFT := Lib.hid (rowFits_ok HC.out HR.out)
  obtain ⟨rg, rog, rfl⟩ := row_src HR.out (k := 0) (x := y) rfl rfl
  obtain ⟨N, hN⟩ : ∃ N, (y :: r).length = N := ⟨_, rfl⟩
  have hN1 : ¬ N = 0 := by intro h; rw [h] at hN; cases hN
  have hN2 : ((N : Int) == 0) = false := by simp; omega
  have hN3 : 0 < N := by omega
  have HN := Lib.hid hN
  rw [hN] at HR HFT m1
  rw [hN]
  clear hN
  cases hf : fitsT c (y :: r)
  ·have HO := Lib.hid (show imgOk c x.key (y :: r) = false by unfold imgOk; rw [hf]; rfl)
   rw [HO.out]
   rw [hf] at HFT
   clear HR HC HO hf
   go_enter Tryz.func123, Tryz.ntmps123
   go_upto_region 1 with fail
   refine wp_region_canon [(0, false, 6), (1, false, 6), (2, false, 6), (3, false, 6), (4, false, 6), (5, false, 6), (6, true, 0), (7, false, 999), (8, false, 999), (9, false, 999), (10, false, 999), (11, false, 999), (12, false, 999), (13, false, 999), (14, false, 999), (15, false, 999), (16, false, 999)] (by kernel_rfl) (by kernel_rfl) ?_
   iterate 4 (refine wpCan_read rfl rfl (fun K hK => ?_); go_simp; refine hK _ ?_; clear hK K)
   iterate 2 (first | (refine wpCan_no rfl rfl ?_; simp only [Act.put, List.setIfInBounds_toArray, List.set_cons_succ, List.set_cons_zero, List.getElem_toArray, List.getElem_cons_succ, List.getElem_cons_zero]) | (refine wpCan_yes rfl rfl (fun K hK => ?_); go_simp; refine hK _ ?_; clear hK K))
   refine wpCan_eff rfl ?_
   refine wpList_do rfl (fun K hK => ?_)
   go_simp
   refine HFT.out.mono ?_
   rintro e1 w1 ⟨rfl, hk1⟩
   have HK1 := Lib.hid (HKD.out.trans hk1 (fun _ h => h.elim))
   clear hk1 HFT t0 tf
   refine hK _ _ ?_
   clear hK K
   refine wpList_nil ?_
   refine And.intro ?_ ?_
   ·go_simp
   iterate 8 (first | (refine wpCan_no rfl rfl ?_; simp only [Act.put, List.setIfInBounds_toArray, List.set_cons_succ, List.set_cons_zero, List.getElem_toArray, List.getElem_cons_succ, List.getElem_cons_zero]) | (refine wpCan_yes rfl rfl (fun K hK => ?_); go_simp; refine hK _ ?_; clear hK K))
   iterate 2 (refine wpCan_read rfl rfl (fun K hK => ?_); go_simp; refine hK _ ?_; clear hK K)
   refine wpCan_nil ?_
   go_wp2_with fail
   go_ret
   exact ⟨rfl, HK1.out⟩
  ·have HO := Lib.hid (show imgOk c x.key (y :: r) = valEqB y.t y.n y.s x.key.t x.key.n x.key.s by unfold imgOk; rw [hf, valEqB_val]; simp)
   rw [HO.out]
   rw [hf] at HFT
   clear HC HO hf
   go_enter Tryz.func123, Tryz.ntmps123
   go_upto_region 1 with fail
   refine wp_region_canon [(0, false, 6), (1, false, 6), (2, false, 6), (3, false, 6), (4, false, 6), (5, false, 6), (6, true, 0), (7, false, 999), (8, false, 999), (9, false, 999), (10, false, 999), (11, false, 999), (12, false, 999), (13, false, 999), (14, false, 999), (15, false, 999), (16, false, 999)] (by kernel_rfl) (by kernel_rfl) ?_
   iterate 4 (refine wpCan_read rfl rfl (fun K hK => ?_); go_simp; refine hK _ ?_; clear hK K)
   iterate 2 (first | (refine wpCan_no rfl rfl ?_; simp only [Act.put, List.setIfInBounds_toArray, List.set_cons_succ, List.set_cons_zero, List.getElem_toArray, List.getElem_cons_succ, List.getElem_cons_zero]) | (refine wpCan_yes rfl rfl (fun K hK => ?_); go_simp; refine hK _ ?_; clear hK K))
   refine wpCan_eff rfl ?_
   refine wpList_do rfl (fun K hK => ?_)
   go_simp
   refine HFT.out.mono ?_
   rintro e1 w1 ⟨rfl, hk1⟩
   have HK1 := Lib.hid (HKD.out.trans hk1 (fun _ h => h.elim))
   obtain ⟨y0, y1, y2⟩ := key_cells (h := 0) (x := y) (Rd.kept HR.out hk1 (fun _ _ h => h)) rfl
   rw [Nat.zero_mul, Nat.add_zero] at y0 y1 y2
   obtain ⟨k0, k1, k2⟩ := boxKey (kept_blk HK1.out HB2.out)
   clear hk1 HFT t0 tf
   refine hK _ _ ?_
   clear hK K
   refine wpList_nil ?_
   refine And.intro ?_ ?_
   ·go_simp
   iterate 8 (first | (refine wpCan_no rfl rfl ?_; simp only [Act.put, List.setIfInBounds_toArray, List.set_cons_succ, List.set_cons_zero, List.getElem_toArray, List.getElem_cons_succ, List.getElem_cons_zero]) | (refine wpCan_yes rfl rfl (fun K hK => ?_); go_simp; refine hK _ ?_; clear hK K))
   iterate 2 (refine wpCan_read rfl rfl (fun K hK => ?_); go_simp; refine hK _ ?_; clear hK K)
   refine wpCan_nil ?_
   go_wp2_with fail
   go_ret
   exact ⟨rfl, HK1.out⟩
set_option maxHeartbeats 4000000 in
theorem onRow_ok {w : World} {cv : Value} {c : List Bool} (x : ClmE) (hc : ColRd w cv c) (hc1 : 1 ≤ c.length) (hx : RdCl w x) :
  Calls Tryz.prog 80 #[.agg #[cv], .agg x.cells.toArray] w fun e w' => e = .returned (.bool (onRowK c x.c)) ∧ Kept (fun _ => False) w w' := by
 obtain ⟨rr, hrr⟩ : ∃ rr, rr = onRowK c x.c := ⟨_, rfl⟩
 rw [← hrr]
 have HRR := Lib.hid hrr
 clear hrr
 obtain ⟨W1, hW1, hk1, hb1, hb2⟩ := alloc2 w #[cv] x.cells.toArray tTab tCl
 have HC := Lib.hid (Rd.kept hc hk1 (fun _ _ h => h))
 have HX := Lib.hid (hx.1.kept hk1)
 have HW1 := Lib.hid hW1
 have HK1 := Lib.hid hk1
 have HB1 := Lib.hid hb1
 have HB2 := Lib.hid hb2
 have HR := Lib.hid (right_ok x.key W1.drew)
 obtain ⟨_, m1, ca, cc, rfl, _⟩ := hc
 unfold maxLen at m1
 obtain ⟨y, hy⟩ : ∃ y, c[0]? = some y := ⟨c[0]'(by omega), List.getElem?_eq_getElem _⟩
 obtain ⟨cg, cog, rfl⟩ := col_src HC.out hy rfl
 have hg : c.getD 0 false = y := by rw [List.getD_eq_getElem?_getD, hy]; rfl
 have HY := Lib.hid (show ∀ w2, Kept (fun _ => False) W1 w2 → w2.cell? ⟨cg, cog, none⟩ = some (.bool y) from fun w2 k => by have := col_cell (Rd.kept HC.out k (fun _ _ h => h)) hy; simpa using this)
 obtain ⟨N, hN⟩ : ∃ N, c.length = N := ⟨_, rfl⟩
 have hN1 : 0 < N := by omega
 obtain ⟨ia, il, hil, hnc, hml, hcm⟩ : ∃ a c, Value.slice x.ia x.il x.ic = .slice a x.imgs.length c ∧ x.imgs.length ≤ c ∧ x.imgs.length ≤ 9223372036854775807 ∧ c ≤ 9223372036854775807 := hx.1.shape
 have HIL := Lib.hid (Value.slice.inj hil).2.1
 clear hk1 hW1 hb1 hb2 hx hy hil hc1
 rw [hN] at m1 HB1 HW1
 rw [hN]
 have HN := Lib.hid hN
 clear hN
 cases hr : valRight x.key
 ·have HO := Lib.hid (show onRowK c x.c = false by unfold onRowK; rw [show x.c.key = x.key from rfl, hr]; rfl)
  rw [hr] at HR
  clear hr hg
  go_enter Tryz.func80, Tryz.ntmps80
  go_upto_region 1 with fail
  rw [← HW1.out]
  clear HW1
  generalize w.heap.size + 1 = b2 at HB2 ⊢
  generalize w.heap.size = b1 at HB1 ⊢
  obtain ⟨k0, k1, k2⟩ := boxKey HB2.out
  refine wp_region_canon [(0, false, 2), (1, false, 2), (2, true, 0), (3, false, 999), (4, false, 999), (5, false, 999), (6, false, 999), (7, false, 999), (8, false, 999), (9, false, 999), (10, false, 999), (11, false, 999), (12, false, 999), (13, false, 999)] (by kernel_rfl) (by kernel_rfl) ?_
  iterate 2 (refine wpCan_read rfl rfl (fun K hK => ?_); go_simp; refine hK _ ?_; clear hK K)
  refine wpCan_eff rfl ?_
  refine wpList_do rfl (fun K hK => ?_)
  go_simp
  refine HR.out.mono ?_
  rintro e1 w1 ⟨rfl, hk1⟩
  have HK2 := Lib.hid (HK1.out.drew.trans hk1 (fun _ h => h.elim))
  clear hk1 HR k0 k1 k2
  refine hK _ _ ?_
  clear hK K
  refine wpList_nil ?_
  refine And.intro ?_ ?_
  ·go_simp
  iterate 2 (refine wpCan_read rfl rfl (fun K hK => ?_); go_simp; refine hK _ ?_; clear hK K)
  iterate 8 (first | (refine wpCan_no rfl rfl ?_; simp only [Act.put, List.setIfInBounds_toArray, List.set_cons_succ, List.set_cons_zero, List.getElem_toArray, List.getElem_cons_succ, List.getElem_cons_zero]) | (refine wpCan_yes rfl rfl (fun K hK => ?_); go_simp; refine hK _ ?_; clear hK K))
  iterate 1 (refine wpCan_read rfl rfl (fun K hK => ?_); go_simp; refine hK _ ?_; clear hK K)
  refine wpCan_nil ?_
  go_wp2_with fail
  go_ret
  exact ⟨by rw [HRR.out, HO.out]; rfl, HK2.out⟩
 rw [hr] at HR
 by_cases ht : x.key.t = y
 ·have HO := Lib.hid (show onRowK c x.c = (if x.mode = 3 ∨ x.mode = 5 then x.imgs.isEmpty else if x.mode = 6 then x.imgs.all (imgOk c x.key) else false) by unfold onRowK; rw [hg, show x.c.key = x.key from rfl, hr, ht, decide_eq_true (show y = y from rfl)]; rfl)
  subst ht
  clear hr hg
  have h4 : x.mode = 3 ∨ x.mode = 5 ∨ x.mode = 6 ∨ (¬ x.mode = 3 ∧ ¬ x.mode = 5 ∧ ¬ x.mode = 6) := by omega
  go_enter Tryz.func80, Tryz.ntmps80
  go_upto_region 1 with fail
  rw [← HW1.out]
  clear HW1
  generalize w.heap.size + 1 = b2 at HB2 ⊢
  generalize w.heap.size = b1 at HB1 ⊢
  obtain ⟨k0, k1, k2⟩ := boxKey HB2.out
  refine wp_region_canon [(0, false, 2), (1, false, 2), (2, true, 0), (3, false, 999), (4, false, 999), (5, false, 999), (6, false, 999), (7, false, 999), (8, false, 999), (9, false, 999), (10, false, 999), (11, false, 999), (12, false, 999), (13, false, 999)] (by kernel_rfl) (by kernel_rfl) ?_
  iterate 2 (refine wpCan_read rfl rfl (fun K hK => ?_); go_simp; refine hK _ ?_; clear hK K)
  refine wpCan_eff rfl ?_
  refine wpList_do rfl (fun K hK => ?_)
  go_simp
  refine HR.out.mono ?_
  rintro e1 w1 ⟨rfl, hk1⟩
  have HKW := Lib.hid ((Kept.refl (fun _ => False) W1).drew.trans hk1 (fun _ h => h.elim))
  have HK2 := Lib.hid (HK1.out.trans HKW.out (fun _ h => h.elim))
  clear hk1 HR k0 k1 k2
  obtain ⟨k0, k1, k2⟩ := boxKey (kept_blk HKW.out HB2.out)
  obtain ⟨t0, _⟩ := cells1 (kept_blk HKW.out HB1.out)
  have hy := HY.out _ HKW.out
  refine hK _ _ ?_
  clear hK K
  refine wpList_nil ?_
  refine And.intro ?_ ?_
  ·go_simp
  iterate 2 (refine wpCan_read rfl rfl (fun K hK => ?_); go_simp; refine hK _ ?_; clear hK K)
  iterate 8 (first | (refine wpCan_no rfl rfl ?_; simp only [Act.put, List.setIfInBounds_toArray, List.set_cons_succ, List.set_cons_zero, List.getElem_toArray, List.getElem_cons_succ, List.getElem_cons_zero]) | (refine wpCan_yes rfl rfl (fun K hK => ?_); go_simp; refine hK _ ?_; clear hK K))
  iterate 1 (refine wpCan_read rfl rfl (fun K hK => ?_); go_simp; refine hK _ ?_; clear hK K)
  refine wpCan_nil ?_
  obtain ⟨m2, m6⟩ := boxClm2 (kept_blk HKW.out HB2.out)
  rcases h4 with h | h | h | ⟨h3, h5, h6⟩
  ·rw [h] at m2
   rw [HIL.out] at m6
   have HO := Lib.hid (show onRowK c x.c = x.imgs.isEmpty by rw [HO.out, if_pos (.inl h)])
   clear h
   by_cases h0 : x.imgs.length = 0
   ·have he : x.imgs.isEmpty = true := by rw [List.isEmpty_iff]; exact List.length_eq_zero_iff.1 h0
    have HO := Lib.hid (show onRowK c x.c = true by rw [HO.out, he])
    rw [h0] at m6
    clear he h0 hnc hml
    go_wp2_with fail
    go_ret
    exact ⟨by rw [HRR.out, HO.out]; rfl, HK2.out⟩
   ·have he : x.imgs.isEmpty = false := by cases hx : x.imgs with | nil => rw [hx] at h0; exact absurd rfl h0 | cons _ _ => rfl
    have h1 : ((x.imgs.length : Int) == 0) = false := by simp; intro h2; exact h0 (by rw [h2]; rfl)
    have HO := Lib.hid (show onRowK c x.c = false by rw [HO.out, he])
    generalize x.imgs.length = il0 at *
    clear he h0
    go_wp2_with fail
    go_ret
    exact ⟨by rw [HRR.out, HO.out]; rfl, HK2.out⟩
  ·rw [h] at m2
   rw [HIL.out] at m6
   have HO := Lib.hid (show onRowK c x.c = x.imgs.isEmpty by rw [HO.out, if_pos (.inr h)])
   clear h
   by_cases h0 : x.imgs.length = 0
   ·have he : x.imgs.isEmpty = true := by rw [List.isEmpty_iff]; exact List.length_eq_zero_iff.1 h0
    have HO := Lib.hid (show onRowK c x.c = true by rw [HO.out, he])
    rw [h0] at m6
    clear he h0 hnc hml
    go_wp2_with fail
    go_ret
    exact ⟨by rw [HRR.out, HO.out]; rfl, HK2.out⟩
   ·have he : x.imgs.isEmpty = false := by cases hx : x.imgs with | nil => rw [hx] at h0; exact absurd rfl h0 | cons _ _ => rfl
    have h1 : ((x.imgs.length : Int) == 0) = false := by simp; intro h2; exact h0 (by rw [h2]; rfl)
    have HO := Lib.hid (show onRowK c x.c = false by rw [HO.out, he])
    generalize x.imgs.length = il0 at *
    clear he h0
    go_wp2_with fail
    go_ret
    exact ⟨by rw [HRR.out, HO.out]; rfl, HK2.out⟩
  ·rw [h] at m2
   have HO := Lib.hid (show onRowK c x.c = x.imgs.all (imgOk c x.key) by rw [HO.out, if_neg (by omega), if_pos h])
   clear h
   have HALL := Lib.hid (all_R (F := 123) (caps := #[.pointer (some ⟨b1, 0, none⟩), .pointer (some ⟨b2, 0, none⟩)]) (imgOk c x.key) (HX.out.kept HKW.out) (fun r _ => onRow1F (x := x) (kept_blk HKW.out HB1.out) (kept_blk HKW.out HB2.out) (by have := Rd.kept HC.out HKW.out (fun _ _ h => h); rw [HN.out] at this; show Rd _ 1 _ c.length _; rw [HN.out]; exact this) r))
   go_wp2_with (go_at_call 118; refine HALL.out.mono ?_; rintro e3 w3 ⟨rfl, hk3⟩; have HK3 := Lib.hid (HK2.out.trans hk3 (fun _ h => h.elim)); clear hk3 HALL m2 m6 k0 k1 k2 t0 hy)
   go_ret
   exact ⟨by rw [HRR.out, HO.out]; rfl, HK3.out⟩
  ·have HO := Lib.hid (show onRowK c x.c = false by rw [HO.out, if_neg (by omega), if_neg h6])
   go_wp2_with fail
   go_ret
   exact ⟨by rw [HRR.out, HO.out]; rfl, HK2.out⟩
 ·have HO := Lib.hid (show onRowK c x.c = false by unfold onRowK; rw [hg, show x.c.key = x.key from rfl, hr, decide_eq_false ht]; rfl)
  obtain rfl : y = !x.key.t := by cases y <;> cases h : x.key.t <;> simp_all
  clear hr hg ht
  go_enter Tryz.func80, Tryz.ntmps80
  go_upto_region 1 with fail
  rw [← HW1.out]
  clear HW1
  generalize w.heap.size + 1 = b2 at HB2 ⊢
  generalize w.heap.size = b1 at HB1 ⊢
  obtain ⟨k0, k1, k2⟩ := boxKey HB2.out
  refine wp_region_canon [(0, false, 2), (1, false, 2), (2, true, 0), (3, false, 999), (4, false, 999), (5, false, 999), (6, false, 999), (7, false, 999), (8, false, 999), (9, false, 999), (10, false, 999), (11, false, 999), (12, false, 999), (13, false, 999)] (by kernel_rfl) (by kernel_rfl) ?_
  iterate 2 (refine wpCan_read rfl rfl (fun K hK => ?_); go_simp; refine hK _ ?_; clear hK K)
  refine wpCan_eff rfl ?_
  refine wpList_do rfl (fun K hK => ?_)
  go_simp
  refine HR.out.mono ?_
  rintro e1 w1 ⟨rfl, hk1⟩
  have HKW := Lib.hid ((Kept.refl (fun _ => False) W1).drew.trans hk1 (fun _ h => h.elim))
  have HK2 := Lib.hid (HK1.out.trans HKW.out (fun _ h => h.elim))
  clear hk1 HR k0 k1 k2
  obtain ⟨k0, k1, k2⟩ := boxKey (kept_blk HKW.out HB2.out)
  obtain ⟨t0, _⟩ := cells1 (kept_blk HKW.out HB1.out)
  have hy := HY.out _ HKW.out
  refine hK _ _ ?_
  clear hK K
  refine wpList_nil ?_
  refine And.intro ?_ ?_
  ·go_simp
  iterate 2 (refine wpCan_read rfl rfl (fun K hK => ?_); go_simp; refine hK _ ?_; clear hK K)
  iterate 8 (first | (refine wpCan_no rfl rfl ?_; simp only [Act.put, List.setIfInBounds_toArray, List.set_cons_succ, List.set_cons_zero, List.getElem_toArray, List.getElem_cons_succ, List.getElem_cons_zero]) | (refine wpCan_yes rfl rfl (fun K hK => ?_); go_simp; refine hK _ ?_; clear hK K))
  iterate 1 (refine wpCan_read rfl rfl (fun K hK => ?_); go_simp; refine hK _ ?_; clear hK K)
  refine wpCan_nil ?_
  go_wp2_with fail
  go_ret
  exact ⟨by rw [HRR.out, HO.out]; rfl, HK2.out⟩
end Go.Proofs.YtgljdkjepdknnaaGreatDoor

/- Whether a claim may be (claim.Check). -/
namespace Go.Proofs.YtgljdkjepdknnaaGreatDoor
open Go.ChangeShapes Go.WideShapes Go.ChangeAt Go.RowKit
set_option maxRecDepth 100000
set_option linter.unusedSimpArgs false

theorem mayK_out {ts : List (List Bool)} {x : Clm} (h : ¬ (0 ≤ x.table ∧ x.table < (ts.length : Int))) : mayK ts x = false := by
 unfold mayK
 by_cases h1 : 0 ≤ x.table
 ·rw [decide_eq_false (fun h2 => h ⟨h1, h2⟩)]; simp
 ·rw [decide_eq_false h1]; simp
theorem mayK_at {ts : List (List Bool)} {x : Clm} {k : Nat} {c : List Bool} (hk : x.table = (k : Int)) (hc : ts[k]? = some c) : mayK ts x = (mayT c && kindK c x) := by
 have hlt := (List.getElem?_eq_some_iff.1 hc).1
 unfold mayK
 rw [hk, Int.toNat_natCast, List.getD_eq_getElem?_getD, hc, decide_eq_true (by omega), decide_eq_true (by omega)]
 simp
theorem boxTb {w : World} {b : Nat} {x : ClmE} {t : TypeId} {fr : Nat × Nat} (h : w.heap[b]? = some (.cells x.cells.toArray t fr)) : w.cell? ⟨b, 0, none⟩ = some (.int .i64 x.kind) ∧ w.cell? ⟨b, 1, none⟩ = some (.int .i64 x.table) ∧ w.cell? ⟨b, 2, none⟩ = some (.int .i64 x.mode) := ⟨(boxClm h).1, (boxClm h).2.1, (boxClm2 h).1⟩
set_option maxHeartbeats 8000000 in
theorem chk_C {B w : World} {D : PH} {l : List HP} {tv : Value} {ts : List (List Bool)} (ht : TblsAt D tv ts) (x : ClmE) (hx : ClOk D x) (hnd : x.pr.p.nodes.length ≤ 1000000) (hs : Sat B D w l) :
  Calls Tryz.prog 40 #[tv, .agg x.cells.toArray] w fun e w' => e = .returned (.int .i64 (if mayK ts x.c then 0 else 111)) ∧ Sat B D w' l := by
 obtain ⟨rr, hrr⟩ : ∃ rr : Int, rr = (if mayK ts x.c then 0 else 111) := ⟨_, rfl⟩
 rw [← hrr]
 have HRR := Lib.hid hrr
 clear hrr
 obtain ⟨us, hl, hone, hrd, hth⟩ := ht
 obtain ⟨ta, tc, rfl⟩ := hrd.shape
 obtain ⟨W1, hW1, hs1⟩ := Sat.hide (hs.alloc x.cells.toArray tCl)
 have HW1 := Lib.hid hW1
 have HS1 := Lib.hid hs1
 have hml := hrd.2.1
 unfold maxLen at hml
 have HRD := Lib.hid hrd
 have HTH := Lib.hid hth
 have HX := Lib.hid hx
 have HND := Lib.hid hnd
 have HUL := Lib.hid hl
 obtain ⟨N, hN⟩ : ∃ N, ts.length = N := ⟨_, rfl⟩
 have HN := Lib.hid hN
 rw [hN] at hml HRD
 rw [hN]
 clear hs hs1 hW1 hth hrd hx hnd hl hone
 by_cases hin : 0 ≤ x.table ∧ x.table < (N : Int)
 rotate_left
 ·have HO := Lib.hid (show (if mayK ts x.c then (0 : Int) else 111) = 111 by rw [mayK_out (by rw [hN]; exact hin)]; rfl)
  clear hN
  by_cases h0 : x.table < 0
  ·go_enter Tryz.func40, Tryz.ntmps40
   go_upto_region 1 with fail
   rw [← HW1.out]
   clear HW1
   generalize w.heap.size = bx at HS1 ⊢
   obtain ⟨x0, x1, x2⟩ := boxTb (HS1.out.blk 0 rfl)
   go_wp2_with fail
   go_ret
   exact ⟨by rw [HRR.out, HO.out]; rfl, HS1.out.drop⟩
  ·have h1 : x.table ≥ (N : Int) := by omega
   go_enter Tryz.func40, Tryz.ntmps40
   go_upto_region 1 with fail
   rw [← HW1.out]
   clear HW1
   generalize w.heap.size = bx at HS1 ⊢
   obtain ⟨x0, x1, x2⟩ := boxTb (HS1.out.blk 0 rfl)
   go_wp2_with fail
   go_ret
   exact ⟨by rw [HRR.out, HO.out]; rfl, HS1.out.drop⟩
 obtain ⟨k, hk⟩ : ∃ k : Nat, x.table = (k : Int) := ⟨x.table.toNat, by omega⟩
 have hkN : k < N := by omega
 obtain ⟨c, hc⟩ : ∃ c, ts[k]? = some c := ⟨ts[k]'(by omega), List.getElem?_eq_getElem _⟩
 obtain ⟨u, hu⟩ : ∃ u, us[k]? = some u := ⟨us[k]'(by have := HUL.out; omega), List.getElem?_eq_getElem _⟩
 have HMAY := Lib.hid (mayK_at (x := x.c) hk hc)
 have hcr := HTH.out k u c hu hc
 have hrr := HRD.out.rd HS1.out
 obtain ⟨g, og, rfl⟩ : ∃ g og, ta = some ⟨g, og, none⟩ := by
  rcases hrr.2.2 with ⟨_, _, hv, _, _, _, hcase⟩
  cases hv
  rcases hcase with h0 | ⟨g, o, hg, _⟩
  ·omega
  ·exact ⟨g, o, hg⟩
 have HCELL := Lib.hid (show ∀ w2, Sat B D w2 [] → w2.cell? ⟨g, og + k, none⟩ = some u from fun w2 s2 => by
  rcases (HRD.out.rd s2).2.2 with ⟨_, _, hv, _, _, _, hcase⟩
  cases hv
  rcases hcase with h0 | ⟨g', o', hg, hcl⟩
  ·omega
  ·cases hg; exact hcl k u hu)
 have HNIL := Lib.hid (show ∀ w2 l2, Sat B D w2 l2 → Sat B D w2 [] from fun w2 l2 s2 => by
  induction l2 with
  | nil => exact s2
  | cons a l2 ih => exact ih s2.drop)
 have HCR := Lib.hid hcr
 obtain ⟨_, _, ua, uc, rfl, _⟩ := hcr
 have hb1 : (k : Int) < (N : Int) := by omega
 have hb2 : ¬ (k : Int) ≥ (N : Int) := by omega
 have hb3 : ¬ (k : Int) < 0 := by omega
 have HK := Lib.hid hk
 clear hc hu hrr hN hin
 have HCHK := Lib.hid (rowChk_ok (HCR.out.rd HS1.out))
 cases hm : mayT c
 ·rw [show chk c = 1 by unfold chk; rw [hm]; rfl] at HCHK
  have HO := Lib.hid (show (if mayK ts x.c then (0 : Int) else 111) = 111 by rw [HMAY.out, hm]; rfl)
  clear hm
  go_enter Tryz.func40, Tryz.ntmps40
  go_upto_region 1 with fail
  rw [← HW1.out]
  clear HW1
  generalize w.heap.size = bx at HS1 ⊢
  obtain ⟨x0, x1, x2⟩ := boxTb (HS1.out.blk 0 rfl)
  rw [HK.out] at x1
  have hcell := HCELL.out _ (HNIL.out _ _ HS1.out)
  clear hk
  go_wp2_with (go_at_call 78; refine HCHK.out.mono ?_; rintro e1 w1 ⟨rfl, hk1⟩; have HS2 := Lib.hid (HS1.out.kept hk1); clear hk1 HCHK HS1 x0 x1 x2 hcell)
  go_ret
  exact ⟨by rw [HRR.out, HO.out]; rfl, HS2.out.drop⟩
 rw [show chk c = 0 by unfold chk; rw [hm]; rfl] at HCHK
 have HKI := Lib.hid (show mayK ts x.c = kindK c x.c by rw [HMAY.out, hm]; rfl)
 have hc1 : 1 ≤ c.length := by unfold mayT at hm; simp at hm; exact hm.1
 have HM := Lib.hid hm
 clear hm
 go_enter Tryz.func40, Tryz.ntmps40
 go_upto_region 1 with fail
 rw [← HW1.out]
 clear HW1
 generalize w.heap.size = bx at HS1 ⊢
 obtain ⟨x0, x1, x2⟩ := boxTb (HS1.out.blk 0 rfl)
 rw [HK.out] at x1
 have hcell := HCELL.out _ (HNIL.out _ _ HS1.out)
 clear hk
 go_upto_region 3 with (go_at_call 78; refine HCHK.out.mono ?_; rintro e1 w1 ⟨rfl, hk1⟩; have HS2 := Lib.hid (HS1.out.kept hk1); clear hk1 HCHK HS1 x0 x1 x2 hcell)
 obtain ⟨x0, x1, x2⟩ := boxTb (HS2.out.blk 0 rfl)
 rw [HK.out] at x1
 have hcell := HCELL.out _ (HNIL.out _ _ HS2.out)
 have HS3 := Lib.hid (HS2.out.alloc #[.slice ua c.length uc] tTab)
 go_upto_region 4 with fail
 obtain ⟨W3, hW3, hs3⟩ := Sat.hide HS3.out
 rw [← hW3]
 clear hW3 HS3 HS2 x0 x1 x2 hcell
 generalize w1.heap.size = bt at hs3 ⊢
 obtain ⟨t0, tf⟩ := cells1 (hs3.blk 0 rfl)
 obtain ⟨x0, x1, x2⟩ := boxTb (hs3.blk 1 rfl)
 have HL := Lib.hid (loadCl (blk_range (hs3.blk 1 rfl)))
 have HS3 := Lib.hid hs3
 clear hs3
 have h4 : x.kind = 1 ∨ x.kind = 2 ∨ x.kind = 3 ∨ (¬ x.kind = 1 ∧ ¬ x.kind = 2 ∧ ¬ x.kind = 3) := by omega
 rcases h4 with h | h | h | ⟨n1, n2, n3⟩
 ·rw [h] at x0
  have HKK := Lib.hid (show kindK c x.c = (modeR x.mode && !decide (x.mode = 0)) by unfold kindK; rw [if_pos (show x.c.kind = 1 from h)]; rfl)
  clear h
  have HR := Lib.hid (Right_ok x.mode)
  cases hr : modeR x.mode
  ·have HO := Lib.hid (show (if mayK ts x.c then (0 : Int) else 111) = 111 by rw [HKI.out, HKK.out, hr]; rfl)
   rw [hr] at HR
   clear hr
   go_wp2_with (go_at_call 79; refine (HR.out _).mono ?_; rintro e4 w4 ⟨rfl, rfl⟩; clear HR)
   go_ret
   exact ⟨by rw [HRR.out, HO.out]; rfl, HS3.out.drop.drop⟩
  ·rw [hr] at HR
   by_cases hz : x.mode = 0
   ·have HO := Lib.hid (show (if mayK ts x.c then (0 : Int) else 111) = 111 by rw [HKI.out, HKK.out, hr, hz]; rfl)
    rw [hz] at x2 HR
    clear hr hz
    go_wp2_with (go_at_call 79; refine (HR.out _).mono ?_; rintro e4 w4 ⟨rfl, rfl⟩; clear HR)
    go_ret
    exact ⟨by rw [HRR.out, HO.out]; rfl, HS3.out.drop.drop⟩
   ·have HO := Lib.hid (show (if mayK ts x.c then (0 : Int) else 111) = 0 by rw [HKI.out, HKK.out, hr, decide_eq_false hz]; rfl)
    have hz1 : (x.mode != 0) = true := by simp [hz]
    clear hr hz
    go_wp2_with (go_at_call 79; refine (HR.out _).mono ?_; rintro e4 w4 ⟨rfl, rfl⟩; clear HR)
    go_ret
    exact ⟨by rw [HRR.out, HO.out]; rfl, HS3.out.drop.drop⟩
 ·rw [h] at x0
  have HKK := Lib.hid (show kindK c x.c = onRowK c x.c by unfold kindK; rw [if_neg (show ¬ x.c.kind = 1 by show ¬ x.kind = 1; omega), if_pos (show x.c.kind = 2 from h)])
  clear h
  have HROW := Lib.hid (onRow_ok x (HCR.out.rd HS3.out) hc1 (HX.out.rd HS3.out))
  cases hr : onRowK c x.c
  ·have HO := Lib.hid (show (if mayK ts x.c then (0 : Int) else 111) = 111 by rw [HKI.out, HKK.out, hr]; rfl)
   rw [hr] at HROW
   clear hr
   go_wp2_with (first | (refine wpList_ld rfl _ _ rfl _ _ rfl _ HL.out ?_) | (go_at_call 80; refine HROW.out.mono ?_; rintro e4 w4 ⟨rfl, hk4⟩; have HS4 := Lib.hid (HS3.out.kept hk4); clear hk4 HROW HS3 HL x0 x1 x2 t0 tf))
   go_ret
   exact ⟨by rw [HRR.out, HO.out]; rfl, HS4.out.drop.drop⟩
  ·have HO := Lib.hid (show (if mayK ts x.c then (0 : Int) else 111) = 0 by rw [HKI.out, HKK.out, hr]; rfl)
   rw [hr] at HROW
   clear hr
   go_wp2_with (first | (refine wpList_ld rfl _ _ rfl _ _ rfl _ HL.out ?_) | (go_at_call 80; refine HROW.out.mono ?_; rintro e4 w4 ⟨rfl, hk4⟩; have HS4 := Lib.hid (HS3.out.kept hk4); clear hk4 HROW HS3 HL x0 x1 x2 t0 tf))
   go_ret
   exact ⟨by rw [HRR.out, HO.out]; rfl, HS4.out.drop.drop⟩
 ·rw [h] at x0
  have HKK := Lib.hid (show kindK c x.c = (decide (x.mode = 3) && predMay c x.pr.p) by unfold kindK; rw [if_neg (show ¬ x.c.kind = 1 by show ¬ x.kind = 1; omega), if_neg (show ¬ x.c.kind = 2 by show ¬ x.kind = 2; omega), if_pos (show x.c.kind = 3 from h)]; rfl)
  clear h
  by_cases hz : x.mode = 3
  ·rw [hz] at x2
   have HPC := Lib.hid (predChk_ok x.pr HCR.out HM.out HX.out.2 HND.out HS3.out)
   have HLP := Lib.hid (loadPr (boxClP (HS3.out.blk 1 rfl)))
   cases hr : predMay c x.pr.p
   ·have HO := Lib.hid (show (if mayK ts x.c then (0 : Int) else 111) = 111 by rw [HKI.out, HKK.out, hr]; simp)
    rw [hr] at HPC
    clear hr hz
    go_wp2_with (first | (refine wpList_ldw rfl _ _ rfl _ _ rfl _ HLP.out ?_) | (go_at_call 81; refine HPC.out.mono ?_; rintro e4 w4 ⟨rfl, hs4⟩; have HS4 := Lib.hid hs4; clear hs4 HPC HS3 HL HLP x0 x1 x2 t0 tf))
    go_ret
    exact ⟨by rw [HRR.out, HO.out]; rfl, HS4.out.drop.drop⟩
   ·have HO := Lib.hid (show (if mayK ts x.c then (0 : Int) else 111) = 0 by rw [HKI.out, HKK.out, hr, hz]; rfl)
    rw [hr] at HPC
    clear hr hz
    go_wp2_with (first | (refine wpList_ldw rfl _ _ rfl _ _ rfl _ HLP.out ?_) | (go_at_call 81; refine HPC.out.mono ?_; rintro e4 w4 ⟨rfl, hs4⟩; have HS4 := Lib.hid hs4; clear hs4 HPC HS3 HL HLP x0 x1 x2 t0 tf))
    go_ret
    exact ⟨by rw [HRR.out, HO.out]; rfl, HS4.out.drop.drop⟩
  ·have HO := Lib.hid (show (if mayK ts x.c then (0 : Int) else 111) = 111 by rw [HKI.out, HKK.out, decide_eq_false hz]; rfl)
   go_wp2_with fail
   go_ret
   exact ⟨by rw [HRR.out, HO.out]; rfl, HS3.out.drop.drop⟩
 ·have HO := Lib.hid (show (if mayK ts x.c then (0 : Int) else 111) = 111 by rw [HKI.out]; unfold kindK; rw [if_neg (show ¬ x.c.kind = 1 from n1), if_neg (show ¬ x.c.kind = 2 from n2), if_neg (show ¬ x.c.kind = 3 from n3)]; rfl)
  go_wp2_with fail
  go_ret
  exact ⟨by rw [HRR.out, HO.out]; rfl, HS3.out.drop.drop⟩
end Go.Proofs.YtgljdkjepdknnaaGreatDoor
