/- The library's BinarySearchFunc over values. -/
import Derived.Test.YtdobimafhbfkhaaGreatON3
import Derived.Deep.CutBlock
set_option maxHeartbeats 64000000
namespace Go.Proofs.YtdobimafhbfkhaaGreat
open Go.ChangeShapes Go.WideShapes Go.ChangeAt Go.RowKit
set_option maxRecDepth 100000
set_option linter.unusedSimpArgs false
def bsF (cmp : Nat → Int) (i j : Nat) : Nat := if i < j then (if cmp ((i + j) / 2) < 0 then bsF cmp ((i + j) / 2 + 1) j else bsF cmp i ((i + j) / 2)) else i
termination_by j - i
def gN (keys : List Val) (k : Val) (h : Nat) : Int := ai (keys.getD h default) k
def bg (keys : List Val) (k : Val) : Nat := bsF (gN keys k) 0 keys.length
def dA (keys : List Val) (k : Val) : Bool := decide (bg keys k < keys.length) && decide (gN keys k (bg keys k) = 0)
theorem kF (cmp : Nat → Int) (i j : Nat) (h : i ≤ j) : i ≤ bsF cmp i j ∧ bsF cmp i j ≤ j := by
 unfold bsF
 split
 ·split
  ·have := kF cmp ((i + j) / 2 + 1) j (by omega); omega
  ·have := kF cmp i ((i + j) / 2) (by omega); omega
 ·omega
termination_by j - i
theorem qR {cmp : Nat → Int} {i j : Nat} (h : i < j) : bsF cmp i j = if cmp ((i + j) / 2) < 0 then bsF cmp ((i + j) / 2 + 1) j else bsF cmp i ((i + j) / 2) := by rw [bsF, if_pos h]
theorem rY {cmp : Nat → Int} {i j : Nat} (h : ¬ i < j) : bsF cmp i j = i := by rw [bsF, if_neg h]
theorem aL {w : World} {g o N cap h : Nat} {keys : List Val} {x : Val} (hrd : Rd w 3 (.slice (some ⟨g, o, none⟩) N cap) N (keys.flatMap Val.cells)) (hx : keys[h]? = some x) :
  w.cell? ⟨g, o + h * 3, none⟩ = some (.bool x.t) ∧ w.cell? ⟨g, o + h * 3 + 1, none⟩ = some (.int .i64 x.n) ∧ w.cell? ⟨g, o + h * 3 + 2, none⟩ = some (.string x.s) := by
 have hlt := (List.getElem?_eq_some_iff.1 hx).1
 rcases hrd.2.2 with ⟨_, _, hv, _, _, _, hcell⟩
 cases hv
 rcases hcell with h0 | ⟨_, _, hg, hc⟩
 ·have := hrd.1
  rw [bW Val.len] at this
  omega
 cases hg
 have a0 := hc _ _ (bM Val.len keys h _ hx 0 _ rfl)
 have a1 := hc _ _ (bM Val.len keys h _ hx 1 _ rfl)
 have a2 := hc _ _ (bM Val.len keys h _ hx 2 _ rfl)
 rw [Nat.add_zero] at a0
 rw [← Nat.add_assoc] at a1 a2
 exact ⟨a0, a1, a2⟩
theorem kt {keys : List Val} {h : Nat} {x : Val} (k : Val) (hx : keys[h]? = some x) : gN keys k h = ai x k := by
 unfold gN
 rw [List.getD_eq_getElem?_getD, hx]
 rfl
theorem eq {w : World} {v : Value} {keys : List Val} (k : Val) (hrd : Rd w 3 v keys.length (keys.flatMap Val.cells)) (hbig : keys.length ≤ 1000000) :
  Calls Tryz.prog 112 #[v, k.v, .func (.func 103) #[] #[]] w fun e w' => e = .returned (.tuple #[.int .i64 (bg keys k), .bool (dA keys k)]) ∧ Kept (fun _ => False) w w' := by
 obtain ⟨_, hml, ao, cap, rfl, hnc, hcm, _⟩ := id hrd
 unfold maxLen at hml hcm
 have sU := Bb hrd
 have hk0 : Kept (fun _ => False) w (w.alloc (.cells #[.bool k.t, .int .i64 k.n, .string k.s] 24)) := (Kept.refl _ _).alloc _
 have hb : (w.alloc (.cells #[.bool k.t, .int .i64 k.n, .string k.s] 24)).heap[w.heap.size]? = some (.cells #[.bool k.t, .int .i64 k.n, .string k.s] 24 (0, 0)) := aw w _
 have sX := Bb hk0
 have HB := Bb hb
 clear hrd hk0 hb
 obtain ⟨N, hN⟩ : ∃ N, keys.length = N := ⟨_, rfl⟩
 have HN := Bb hN
 rw [hN] at sU hml hnc hbig ⊢
 clear hN
 dsimp only [Val.v]
 go_enter Tryz.func112, Tryz.ntmps112
 go_upto_block 0 with (fail)
 obtain ⟨W, hW⟩ : ∃ W, W = w.alloc (.cells #[.bool k.t, .int .i64 k.n, .string k.s] 24) := ⟨_, rfl⟩
 rw [← hW] at sX HB ⊢
 generalize w.heap.size = bk at HB ⊢
 clear hW
 go_wp2_with fail
 go_loopw [9, 10] (fun i j wr => ∃ a b : Nat, i = .int .i64 a ∧ j = .int .i64 b ∧ a ≤ b ∧ b ≤ N ∧ bsF (gN keys k) a b = bg keys k ∧ Kept (fun _ => False) W wr) (fun i j _ => (intOf j - intOf i).toNat)
 case atStart => exact ⟨0, N, rfl, rfl, by omega, by omega, by rw [bg, HN.out], Kept.refl _ _⟩
 case round =>
  obtain ⟨a, b, rfl, rfl, hab, hbN, hbs, hkw⟩ := hrel
  have zg := Bb hbs
  have xN := Bb hkw
  have hrd := sU.out.kept (sX.out.trans hkw (fun _ h => h.elim)) (fun _ _ h => h)
  have hbk : wr.heap[bk]? = some (.cells #[.bool k.t, .int .i64 k.n, .string k.s] 24 (0, 0)) := (hkw.block bk (av HB.out) (fun h => h)).trans HB.out
  obtain ⟨x0, x1, x2, xf⟩ := aS hbk
  clear hbs hkw hbk
  by_cases hlt : a < b
  ·have hN' := HN.out
   obtain ⟨g, o, rfl⟩ : ∃ g o, ao = some ⟨g, o, none⟩ := by
    rcases hrd.2.2 with ⟨_, _, hv, _, _, _, hcell⟩
    cases hv
    rcases hcell with h0 | ⟨g, o, h, _⟩
    ·omega
    ·exact ⟨g, o, h⟩
   have hm2 : (a + b) / 2 < N := by omega
   have hma : a ≤ (a + b) / 2 := by omega
   have hmb : (a + b) / 2 < b := by omega
   have wY := Bb (qR (cmp := gN keys k) hlt)
   have hcast : ((a : Int) + (b : Int)) / 2 = (((a + b) / 2 : Nat) : Int) := by omega
   generalize (a + b) / 2 = M at *
   obtain ⟨x, hx⟩ : ∃ x, keys[M]? = some x := ⟨keys[M]'(by omega), List.getElem?_eq_getElem (by omega)⟩
   obtain ⟨y0, y1, y2⟩ := aL hrd hx
   have zh := Bb (kt k hx)
   clear hx
   clear hrd hN'
   have hw1 : IntKind.i64.wrap ((a : Int) + (b : Int)) = (a : Int) + (b : Int) := IntWalk.i64_in _ (by omega)
   go_upto_region 5 with (fail)
   clear hcast
   have sZ := Bb (bH x k wr.drew)
   refine af [(0, false, 6), (1, false, 6), (2, false, 6), (3, false, 6), (4, false, 6), (5, false, 6), (6, true, 0), (7, false, 999)] (by kernel_rfl) (by kernel_rfl) ?_
   iterate 6 (refine ae rfl rfl (fun K hK => ?_); go_simp; refine hK _ ?_; clear hK K)
   refine ag rfl ?_
   refine am rfl (fun K hK => ?_)
   go_simp
   refine sZ.out.mono ?_
   rintro e1 w1 ⟨rfl, hk1⟩
   have sQ := Bb (xN.out.trans (((Kept.refl (fun _ => False) wr).drew).trans hk1 (fun _ h => h.elim)) (fun _ h => h.elim))
   refine hK _ _ ?_
   clear hK K
   refine wpList_nil ?_
   refine And.intro ?_ ?_
   ·go_simp
   refine ae rfl rfl (fun K hK => ?_); go_simp; refine hK _ ?_; clear hK K
   refine ah ?_
   clear hk1 x0 x1 x2 xf y0 y1 y2 sZ
   rw [zh.out] at wY
   generalize ai x k = c at *
   by_cases hneg : c < 0
   ·have hw2 : IntKind.i64.wrap ((M : Int) + 1) = (M : Int) + 1 := IntWalk.i64_in _ (by omega)
    go_wp2_with fail
    go_roundw
    case rel => exact ⟨M + 1, b, by go_num, rfl, by omega, by omega, by rw [← zg.out, wY.out, if_pos hneg], sQ.out⟩
    case measure => simp [intOf]; omega
   ·go_wp2_with fail
    go_roundw
    case rel => exact ⟨a, M, rfl, rfl, by omega, by omega, by rw [← zg.out, wY.out, if_neg hneg], sQ.out⟩
    case measure => simp [intOf]; omega
  ·have hba : bg keys k = a := by rw [← zg.out]; exact rY hlt
   have yT := Bb hba
   have haN : a ≤ N := by omega
   clear hba
   by_cases hend : a < N
   ·have hN' := HN.out
    obtain ⟨g, o, rfl⟩ : ∃ g o, ao = some ⟨g, o, none⟩ := by
     rcases hrd.2.2 with ⟨_, _, hv, _, _, _, hcell⟩
     cases hv
     rcases hcell with h0 | ⟨g, o, h, _⟩
     ·omega
     ·exact ⟨g, o, h⟩
    obtain ⟨x, hx⟩ : ∃ x, keys[a]? = some x := ⟨keys[a]'(by omega), List.getElem?_eq_getElem (by omega)⟩
    obtain ⟨y0, y1, y2⟩ := aL hrd hx
    have zh := Bb (kt k hx)
    clear hx
    clear hrd hN'
    go_upto_region 8 with (fail)
    have sZ := Bb (bH x k wr.drew)
    refine af [(0, false, 999), (1, false, 11), (2, false, 11), (3, false, 11), (4, false, 11), (5, false, 11), (6, false, 11), (7, false, 11), (8, false, 11), (9, false, 11), (10, false, 11), (11, true, 0), (12, false, 999), (13, false, 999), (14, false, 999), (15, false, 999)] (by kernel_rfl) (by kernel_rfl) ?_
    iterate 5 (refine ae rfl rfl (fun K hK => ?_); go_simp; refine hK _ ?_; clear hK K)
    iterate 6 (first | (refine ar rfl rfl ?_; simp only [Act.put, Bc, Bd, Be, Bf, Bg, Bh]) | (refine al rfl rfl (fun K hK => ?_); go_simp; refine hK _ ?_; clear hK K))
    refine ag rfl ?_
    refine am rfl (fun K hK => ?_)
    go_simp
    refine sZ.out.mono ?_
    rintro e1 w1 ⟨rfl, hk1⟩
    have sQ := Bb (sX.out.trans (xN.out.trans (((Kept.refl (fun _ => False) wr).drew).trans hk1 (fun _ h => h.elim)) (fun _ h => h.elim)) (fun _ h => h.elim))
    have uQ := Bb (show dA keys k = (ai x k == 0) by unfold dA; rw [yT.out, HN.out, zh.out]; simp [hend]; rfl)
    refine hK _ _ ?_
    clear hK K
    refine wpList_nil ?_
    refine And.intro ?_ ?_
    ·go_simp
    first | (refine ar rfl rfl ?_; simp only [Act.put, Bc, Bd, Be, Bf, Bg, Bh]) | (refine al rfl rfl (fun K hK => ?_); go_simp; refine hK _ ?_; clear hK K)
    iterate 3 (refine ae rfl rfl (fun K hK => ?_); go_simp; refine hK _ ?_; clear hK K)
    refine ah ?_
    clear hk1 x0 x1 x2 xf y0 y1 y2 sZ
    go_wp2_with fail
    go_ret2
    exact ⟨by rw [yT.out, uQ.out]; rfl, sQ.out⟩
   ·obtain rfl : a = N := by omega
    have uQ := Bb (show dA keys k = false by unfold dA; rw [yT.out, HN.out]; simp)
    have sQ := Bb (sX.out.trans xN.out (fun _ h => h.elim))
    clear hrd
    go_upto_region 8 with (fail)
    refine af [(0, false, 999), (1, false, 11), (2, false, 11), (3, false, 11), (4, false, 11), (5, false, 11), (6, false, 11), (7, false, 11), (8, false, 11), (9, false, 11), (10, false, 11), (11, true, 0), (12, false, 999), (13, false, 999), (14, false, 999), (15, false, 999)] (by kernel_rfl) (by kernel_rfl) ?_
    iterate 5 (refine ae rfl rfl (fun K hK => ?_); go_simp; refine hK _ ?_; clear hK K)
    iterate 6 (first | (refine ar rfl rfl ?_; simp only [Act.put, Bc, Bd, Be, Bf, Bg, Bh]) | (refine al rfl rfl (fun K hK => ?_); go_simp; refine hK _ ?_; clear hK K))
    refine ag rfl ?_
    refine bQ rfl ?_
    simp only [Act.put, Bc, Bd, Be]
    refine wpList_nil ?_
    refine And.intro ?_ ?_
    ·go_simp
    first | (refine ar rfl rfl ?_; simp only [Act.put, Bc, Bd, Be, Bf, Bg, Bh]) | (refine al rfl rfl (fun K hK => ?_); go_simp; refine hK _ ?_; clear hK K)
    iterate 3 (refine ae rfl rfl (fun K hK => ?_); go_simp; refine hK _ ?_; clear hK K)
    refine ah ?_
    go_wp2_with fail
    go_ret2
    exact ⟨by rw [yT.out, uQ.out]; rfl, sQ.out.drew⟩
end Go.Proofs.YtdobimafhbfkhaaGreat
