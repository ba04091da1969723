/- The library's BinarySearchFunc over values. -/
import Derived.Test.YtcbklkcpjldcjaaJ1
import Derived.Deep.CutBlock
namespace Go.Proofs.Ytcbklkcpjldcjaa
open Go.ChangeShapes Go.WideShapes Go.ChangeAt Go.RowKit
set_option maxRecDepth 100000
set_option linter.unusedSimpArgs false

/-- binary search, as the library does it -/
def bsF (cmp : Nat → Int) (i j : Nat) : Nat := if i < j then (if cmp ((i + j) / 2) < 0 then bsF cmp ((i + j) / 2 + 1) j else bsF cmp i ((i + j) / 2)) else i
termination_by j - i
def keyAt (keys : List Val) (k : Val) (h : Nat) : Int := valCmp (keys.getD h default) k
def bsAt (keys : List Val) (k : Val) : Nat := bsF (keyAt keys k) 0 keys.length
def bsIs (keys : List Val) (k : Val) : Bool := decide (bsAt keys k < keys.length) && decide (keyAt keys k (bsAt keys k) = 0)

theorem bsF_le (cmp : Nat → Int) (i j : Nat) (h : i ≤ j) : i ≤ bsF cmp i j ∧ bsF cmp i j ≤ j := by
  unfold bsF
  split
  · split
    · have := bsF_le cmp ((i + j) / 2 + 1) j (by omega); omega
    · have := bsF_le cmp i ((i + j) / 2) (by omega); omega
  · omega
termination_by j - i

theorem bsF_lt {cmp : Nat → Int} {i j : Nat} (h : i < j) : bsF cmp i j = if cmp ((i + j) / 2) < 0 then bsF cmp ((i + j) / 2 + 1) j else bsF cmp i ((i + j) / 2) := by rw [bsF, if_pos h]
theorem bsF_ge {cmp : Nat → Int} {i j : Nat} (h : ¬ i < j) : bsF cmp i j = i := by rw [bsF, if_neg h]
theorem key_cells {w : World} {g o N cap h : Nat} {keys : List Val} {x : Val} (hrd : Rd w 3 (.slice (some ⟨g, o, none⟩) N cap) N (keys.flatMap Val.cells)) (hx : keys[h]? = some x) :
    w.cell? ⟨g, o + h * 3, none⟩ = some (.bool x.t) ∧ w.cell? ⟨g, o + h * 3 + 1, none⟩ = some (.int .i64 x.n) ∧ w.cell? ⟨g, o + h * 3 + 2, none⟩ = some (.string x.s) := by
  have hlt := (List.getElem?_eq_some_iff.1 hx).1
  rcases hrd.2.2 with ⟨_, _, hv, _, _, _, hcell⟩
  cases hv
  rcases hcell with h0 | ⟨_, _, hg, hc⟩
  · have := hrd.1
    rw [flat_len Val.len] at this
    omega
  cases hg
  have a0 := hc _ _ (flat_get Val.len keys h _ hx 0 _ rfl)
  have a1 := hc _ _ (flat_get Val.len keys h _ hx 1 _ rfl)
  have a2 := hc _ _ (flat_get Val.len keys h _ hx 2 _ rfl)
  rw [Nat.add_zero] at a0
  rw [← Nat.add_assoc] at a1 a2
  exact ⟨a0, a1, a2⟩
theorem keyAt_eq {keys : List Val} {h : Nat} {x : Val} (k : Val) (hx : keys[h]? = some x) : keyAt keys k h = valCmp x k := by
  unfold keyAt
  rw [List.getD_eq_getElem?_getD, hx]
  rfl

set_option maxHeartbeats 4000000 in
theorem search_ok {w : World} {v : Value} {keys : List Val} (k : Val) (hrd : Rd w 3 v keys.length (keys.flatMap Val.cells)) (hbig : keys.length ≤ 1000000) :
    Calls Try.prog 63 #[v, k.v, .func (.func 64) #[] #[]] w fun e w' => e = .returned (.tuple #[.int .i64 (bsAt keys k), .bool (bsIs keys k)]) ∧ Kept (fun _ => False) w w' := by
  obtain ⟨_, hml, ao, cap, rfl, hnc, hcm, _⟩ := id hrd
  unfold maxLen at hml hcm
  have HRD := Lib.hid hrd
  have hk0 : Kept (fun _ => False) w (w.alloc (.cells #[.bool k.t, .int .i64 k.n, .string k.s] 23)) := (Kept.refl _ _).alloc _
  have hb : (w.alloc (.cells #[.bool k.t, .int .i64 k.n, .string k.s] 23)).heap[w.heap.size]? = some (.cells #[.bool k.t, .int .i64 k.n, .string k.s] 23 (0, 0)) := heap_alloc_self w _
  have HK0 := Lib.hid hk0
  have HB := Lib.hid hb
  clear hrd hk0 hb
  obtain ⟨N, hN⟩ : ∃ N, keys.length = N := ⟨_, rfl⟩
  have HN := Lib.hid hN
  rw [hN] at HRD hml hnc hbig ⊢
  clear hN
  dsimp only [Val.v]
  go_enter Try.func63, Try.ntmps63
  go_upto_block 0 with (fail)
  obtain ⟨W, hW⟩ : ∃ W, W = w.alloc (.cells #[.bool k.t, .int .i64 k.n, .string k.s] 23) := ⟨_, rfl⟩
  rw [← hW] at HK0 HB ⊢
  generalize w.heap.size = bk at HB ⊢
  clear hW
  go_wp2_with fail
  go_loopw [9, 10] (fun i j wr => ∃ a b : Nat, i = .int .i64 a ∧ j = .int .i64 b ∧ a ≤ b ∧ b ≤ N ∧ bsF (keyAt keys k) a b = bsAt keys k ∧ Kept (fun _ => False) W wr) (fun i j _ => (intOf j - intOf i).toNat)
  case atStart => exact ⟨0, N, rfl, rfl, by omega, by omega, by rw [bsAt, HN.out], Kept.refl _ _⟩
  case round =>
    obtain ⟨a, b, rfl, rfl, hab, hbN, hbs, hkw⟩ := hrel
    have HBS := Lib.hid hbs
    have HKW := Lib.hid hkw
    have hrd := HRD.out.kept (HK0.out.trans hkw (fun _ h => h.elim)) (fun _ _ h => h)
    have hbk : wr.heap[bk]? = some (.cells #[.bool k.t, .int .i64 k.n, .string k.s] 23 (0, 0)) := (hkw.block bk (lt_of_heap HB.out) (fun h => h)).trans HB.out
    obtain ⟨x0, x1, x2, xf⟩ := cells3 hbk
    clear hbs hkw hbk
    by_cases hlt : a < b
    · have hN' := HN.out
      obtain ⟨g, o, rfl⟩ : ∃ g o, ao = some ⟨g, o, none⟩ := by
        rcases hrd.2.2 with ⟨_, _, hv, _, _, _, hcell⟩
        cases hv
        rcases hcell with h0 | ⟨g, o, h, _⟩
        · omega
        · exact ⟨g, o, h⟩
      have hm2 : (a + b) / 2 < N := by omega
      have hma : a ≤ (a + b) / 2 := by omega
      have hmb : (a + b) / 2 < b := by omega
      have HBF := Lib.hid (bsF_lt (cmp := keyAt keys k) hlt)
      have hcast : ((a : Int) + (b : Int)) / 2 = (((a + b) / 2 : Nat) : Int) := by omega
      generalize (a + b) / 2 = M at *
      obtain ⟨x, hx⟩ : ∃ x, keys[M]? = some x := ⟨keys[M]'(by omega), List.getElem?_eq_getElem (by omega)⟩
      obtain ⟨y0, y1, y2⟩ := key_cells hrd hx
      have HKE := Lib.hid (keyAt_eq k hx)
      clear hx
      clear hrd hN'
      have hw1 : IntKind.i64.wrap ((a : Int) + (b : Int)) = (a : Int) + (b : Int) := IntWalk.i64_in _ (by omega)
      go_upto_region 5 with (fail)
      clear hcast
      have HCMP := Lib.hid (compare_ok x k wr.drew)
      refine wp_region_canon [(0, false, 6), (1, false, 6), (2, false, 6), (3, false, 6), (4, false, 6), (5, false, 6), (6, true, 0), (7, false, 999)] (by kernel_rfl) (by kernel_rfl) ?_
      iterate 6 (refine wpCan_read rfl rfl (fun K hK => ?_); go_simp; refine hK _ ?_; clear hK K)
      refine wpCan_eff rfl ?_
      refine wpList_do rfl (fun K hK => ?_)
      go_simp
      refine HCMP.out.mono ?_
      rintro e1 w1 ⟨rfl, hk1⟩
      have HK1 := Lib.hid (HKW.out.trans (((Kept.refl (fun _ => False) wr).drew).trans hk1 (fun _ h => h.elim)) (fun _ h => h.elim))
      refine hK _ _ ?_
      clear hK K
      refine wpList_nil ?_
      refine And.intro ?_ ?_
      · go_simp
      iterate 1 (refine wpCan_read rfl rfl (fun K hK => ?_); go_simp; refine hK _ ?_; clear hK K)
      refine wpCan_nil ?_
      clear hk1 x0 x1 x2 xf y0 y1 y2 HCMP
      rw [HKE.out] at HBF
      generalize valCmp x k = c at *
      by_cases hneg : c < 0
      · have hw2 : IntKind.i64.wrap ((M : Int) + 1) = (M : Int) + 1 := IntWalk.i64_in _ (by omega)
        go_wp2_with fail
        go_roundw
        case rel => exact ⟨M + 1, b, by go_num, rfl, by omega, by omega, by rw [← HBS.out, HBF.out, if_pos hneg], HK1.out⟩
        case measure => simp [intOf]; omega
      · go_wp2_with fail
        go_roundw
        case rel => exact ⟨a, M, rfl, rfl, by omega, by omega, by rw [← HBS.out, HBF.out, if_neg hneg], HK1.out⟩
        case measure => simp [intOf]; omega
    · have hba : bsAt keys k = a := by rw [← HBS.out]; exact bsF_ge hlt
      have HBA := Lib.hid hba
      have haN : a ≤ N := by omega
      clear hba
      by_cases hend : a < N
      · have hN' := HN.out
        obtain ⟨g, o, rfl⟩ : ∃ g o, ao = some ⟨g, o, none⟩ := by
          rcases hrd.2.2 with ⟨_, _, hv, _, _, _, hcell⟩
          cases hv
          rcases hcell with h0 | ⟨g, o, h, _⟩
          · omega
          · exact ⟨g, o, h⟩
        obtain ⟨x, hx⟩ : ∃ x, keys[a]? = some x := ⟨keys[a]'(by omega), List.getElem?_eq_getElem (by omega)⟩
        obtain ⟨y0, y1, y2⟩ := key_cells hrd hx
        have HKE := Lib.hid (keyAt_eq k hx)
        clear hx
        clear hrd hN'
        go_upto_region 8 with (fail)
        have HCMP := Lib.hid (compare_ok x k wr.drew)
        refine wp_region_canon [(0, false, 999), (1, false, 11), (2, false, 11), (3, false, 11), (4, false, 11), (5, false, 11), (6, false, 11), (7, false, 11), (8, false, 11), (9, false, 11), (10, false, 11), (11, true, 0), (12, false, 999), (13, false, 999), (14, false, 999), (15, false, 999)] (by kernel_rfl) (by kernel_rfl) ?_
        iterate 5 (refine wpCan_read rfl rfl (fun K hK => ?_); go_simp; refine hK _ ?_; clear hK K)
        first | (refine wpCan_no rfl rfl ?_; simp only [Act.put, List.setIfInBounds_toArray, List.set_cons_succ, List.set_cons_zero, List.getElem_toArray, List.getElem_cons_succ, List.getElem_cons_zero]) | (refine wpCan_yes rfl rfl (fun K hK => ?_); go_simp; refine hK _ ?_; clear hK K)
        first | (refine wpCan_no rfl rfl ?_; simp only [Act.put, List.setIfInBounds_toArray, List.set_cons_succ, List.set_cons_zero, List.getElem_toArray, List.getElem_cons_succ, List.getElem_cons_zero]) | (refine wpCan_yes rfl rfl (fun K hK => ?_); go_simp; refine hK _ ?_; clear hK K)
        first | (refine wpCan_no rfl rfl ?_; simp only [Act.put, List.setIfInBounds_toArray, List.set_cons_succ, List.set_cons_zero, List.getElem_toArray, List.getElem_cons_succ, List.getElem_cons_zero]) | (refine wpCan_yes rfl rfl (fun K hK => ?_); go_simp; refine hK _ ?_; clear hK K)
        first | (refine wpCan_no rfl rfl ?_; simp only [Act.put, List.setIfInBounds_toArray, List.set_cons_succ, List.set_cons_zero, List.getElem_toArray, List.getElem_cons_succ, List.getElem_cons_zero]) | (refine wpCan_yes rfl rfl (fun K hK => ?_); go_simp; refine hK _ ?_; clear hK K)
        first | (refine wpCan_no rfl rfl ?_; simp only [Act.put, List.setIfInBounds_toArray, List.set_cons_succ, List.set_cons_zero, List.getElem_toArray, List.getElem_cons_succ, List.getElem_cons_zero]) | (refine wpCan_yes rfl rfl (fun K hK => ?_); go_simp; refine hK _ ?_; clear hK K)
        first | (refine wpCan_no rfl rfl ?_; simp only [Act.put, List.setIfInBounds_toArray, List.set_cons_succ, List.set_cons_zero, List.getElem_toArray, List.getElem_cons_succ, List.getElem_cons_zero]) | (refine wpCan_yes rfl rfl (fun K hK => ?_); go_simp; refine hK _ ?_; clear hK K)
        refine wpCan_eff rfl ?_
        refine wpList_do rfl (fun K hK => ?_)
        go_simp
        refine HCMP.out.mono ?_
        rintro e1 w1 ⟨rfl, hk1⟩
        have HK1 := Lib.hid (HK0.out.trans (HKW.out.trans (((Kept.refl (fun _ => False) wr).drew).trans hk1 (fun _ h => h.elim)) (fun _ h => h.elim)) (fun _ h => h.elim))
        have HIS := Lib.hid (show bsIs keys k = (valCmp x k == 0) by unfold bsIs; rw [HBA.out, HN.out, HKE.out]; simp [hend]; rfl)
        refine hK _ _ ?_
        clear hK K
        refine wpList_nil ?_
        refine And.intro ?_ ?_
        · go_simp
        first | (refine wpCan_no rfl rfl ?_; simp only [Act.put, List.setIfInBounds_toArray, List.set_cons_succ, List.set_cons_zero, List.getElem_toArray, List.getElem_cons_succ, List.getElem_cons_zero]) | (refine wpCan_yes rfl rfl (fun K hK => ?_); go_simp; refine hK _ ?_; clear hK K)
        iterate 3 (refine wpCan_read rfl rfl (fun K hK => ?_); go_simp; refine hK _ ?_; clear hK K)
        refine wpCan_nil ?_
        clear hk1 x0 x1 x2 xf y0 y1 y2 HCMP
        go_wp2_with fail
        go_ret2
        exact ⟨by rw [HBA.out, HIS.out]; rfl, HK1.out⟩
      · obtain rfl : a = N := by omega
        have HIS := Lib.hid (show bsIs keys k = false by unfold bsIs; rw [HBA.out, HN.out]; simp)
        have HK1 := Lib.hid (HK0.out.trans HKW.out (fun _ h => h.elim))
        clear hrd
        go_upto_region 8 with (fail)
        refine wp_region_canon [(0, false, 999), (1, false, 11), (2, false, 11), (3, false, 11), (4, false, 11), (5, false, 11), (6, false, 11), (7, false, 11), (8, false, 11), (9, false, 11), (10, false, 11), (11, true, 0), (12, false, 999), (13, false, 999), (14, false, 999), (15, false, 999)] (by kernel_rfl) (by kernel_rfl) ?_
        iterate 5 (refine wpCan_read rfl rfl (fun K hK => ?_); go_simp; refine hK _ ?_; clear hK K)
        first | (refine wpCan_no rfl rfl ?_; simp only [Act.put, List.setIfInBounds_toArray, List.set_cons_succ, List.set_cons_zero, List.getElem_toArray, List.getElem_cons_succ, List.getElem_cons_zero]) | (refine wpCan_yes rfl rfl (fun K hK => ?_); go_simp; refine hK _ ?_; clear hK K)
        first | (refine wpCan_no rfl rfl ?_; simp only [Act.put, List.setIfInBounds_toArray, List.set_cons_succ, List.set_cons_zero, List.getElem_toArray, List.getElem_cons_succ, List.getElem_cons_zero]) | (refine wpCan_yes rfl rfl (fun K hK => ?_); go_simp; refine hK _ ?_; clear hK K)
        first | (refine wpCan_no rfl rfl ?_; simp only [Act.put, List.setIfInBounds_toArray, List.set_cons_succ, List.set_cons_zero, List.getElem_toArray, List.getElem_cons_succ, List.getElem_cons_zero]) | (refine wpCan_yes rfl rfl (fun K hK => ?_); go_simp; refine hK _ ?_; clear hK K)
        first | (refine wpCan_no rfl rfl ?_; simp only [Act.put, List.setIfInBounds_toArray, List.set_cons_succ, List.set_cons_zero, List.getElem_toArray, List.getElem_cons_succ, List.getElem_cons_zero]) | (refine wpCan_yes rfl rfl (fun K hK => ?_); go_simp; refine hK _ ?_; clear hK K)
        first | (refine wpCan_no rfl rfl ?_; simp only [Act.put, List.setIfInBounds_toArray, List.set_cons_succ, List.set_cons_zero, List.getElem_toArray, List.getElem_cons_succ, List.getElem_cons_zero]) | (refine wpCan_yes rfl rfl (fun K hK => ?_); go_simp; refine hK _ ?_; clear hK K)
        first | (refine wpCan_no rfl rfl ?_; simp only [Act.put, List.setIfInBounds_toArray, List.set_cons_succ, List.set_cons_zero, List.getElem_toArray, List.getElem_cons_succ, List.getElem_cons_zero]) | (refine wpCan_yes rfl rfl (fun K hK => ?_); go_simp; refine hK _ ?_; clear hK K)
        refine wpCan_eff rfl ?_
        refine wpList_not rfl ?_
        simp only [Act.put, List.setIfInBounds_toArray, List.set_cons_succ, List.set_cons_zero]
        refine wpList_nil ?_
        refine And.intro ?_ ?_
        · go_simp
        first | (refine wpCan_no rfl rfl ?_; simp only [Act.put, List.setIfInBounds_toArray, List.set_cons_succ, List.set_cons_zero, List.getElem_toArray, List.getElem_cons_succ, List.getElem_cons_zero]) | (refine wpCan_yes rfl rfl (fun K hK => ?_); go_simp; refine hK _ ?_; clear hK K)
        iterate 3 (refine wpCan_read rfl rfl (fun K hK => ?_); go_simp; refine hK _ ?_; clear hK K)
        refine wpCan_nil ?_
        go_wp2_with fail
        go_ret2
        exact ⟨by rw [HBA.out, HIS.out]; rfl, HK1.out.drew⟩
end Go.Proofs.Ytcbklkcpjldcjaa
