/- The document's May of a claim (ratlineref09.May). (printed by genrm5.py) -/
import Derived.Test.YtgljdkjepdknnaaGreatDoorMT39
set_option maxHeartbeats 64000000
namespace Go.Proofs.YtgljdkjepdknnaaGreatDoor
open Go.ChangeShapes Go.WideShapes Go.ChangeAt Go.RowKit
set_option maxRecDepth 100000
set_option linter.unusedSimpArgs false
theorem nD {c : List Bool} {x : Clm} (h : x.mode = 3 ∨ x.mode = 5 ∨ x.mode = 6) : cm c x = (a9 x.key && (decide (x.key.t = c.getD 0 false) && gH c x)) := by
 unfold cm gH
 rw [Bool.and_assoc]
 congr 2
 rcases h with h | h | h <;> rw [h] <;> rfl
theorem qP {c : List Bool} {x : Clm} (h : ¬ (x.mode = 3 ∨ x.mode = 5 ∨ x.mode = 6)) : cm c x = false := by
 unfold cm
 rw [if_neg (by omega), if_neg (by omega)]
 simp
theorem rMay_ok {B w : World} {D : PH} {l : List HP} {tv : Value} {ts : List (List Bool)} (ht : TblsAt D tv ts) (x : ClmE) (hx : ClOk D x) (hnd : x.pr.p.nodes.length ≤ 1000000) (hs : Sat B D w l) :
  Calls Tryz.prog 104 #[tv, .agg x.cells.toArray] w fun e w' => e = .returned (.bool (bK ts x.c)) ∧ Sat B D w' l := by
 obtain ⟨rr, hrr⟩ : ∃ rr, rr = bK ts x.c := ⟨_, rfl⟩
 rw [← hrr]
 have tl := BO hrr
 clear hrr
 obtain ⟨us, hl, hone, hrd, hth⟩ := ht
 obtain ⟨ta, tc, rfl⟩ := hrd.shape
 obtain ⟨W1, hW1, hs1⟩ := Sat.hide (hs.alloc x.cells.toArray tCl)
 have sR := BO hW1
 have sS := BO hs1
 have hml := hrd.2.1
 unfold maxLen at hml
 have s5 := BO hrd
 have zS := BO hth
 have HX := BO hx
 have yT := BO hnd
 have yU := BO hl
 obtain ⟨N, hN⟩ : ∃ N, ts.length = N := ⟨_, rfl⟩
 have HN := BO hN
 rw [hN] at hml s5
 rw [hN]
 clear hs hs1 hW1 hth hrd hx hnd hl hone
 by_cases hin : 0 ≤ x.table ∧ x.table < (N : Int)
 rotate_left
 ·have HO := BO (show bK ts x.c = false from nt (by rw [hN]; exact hin))
  clear hN
  by_cases h0 : x.table < 0
  ·go_enter Tryz.func104, Tryz.ntmps104
   go_upto_region 1 with fail
   rw [← sR.out]
   clear sR
   generalize w.heap.size = bx at sS ⊢
   obtain ⟨x0, x1, x2⟩ := f7 (sS.out.blk 0 rfl)
   go_wp2_with fail
   go_ret
   exact ⟨by rw [tl.out, HO.out]; rfl, sS.out.drop⟩
  ·have h1 : x.table ≥ (N : Int) := by omega
   go_enter Tryz.func104, Tryz.ntmps104
   go_upto_region 1 with fail
   rw [← sR.out]
   clear sR
   generalize w.heap.size = bx at sS ⊢
   obtain ⟨x0, x1, x2⟩ := f7 (sS.out.blk 0 rfl)
   go_wp2_with fail
   go_ret
   exact ⟨by rw [tl.out, HO.out]; rfl, sS.out.drop⟩
 obtain ⟨k, hk⟩ : ∃ k : Nat, x.table = (k : Int) := ⟨x.table.toNat, by omega⟩
 have hkN : k < N := by omega
 obtain ⟨c, hc⟩ : ∃ c, ts[k]? = some c := ⟨ts[k]'(by omega), List.getElem?_eq_getElem _⟩
 obtain ⟨u, hu⟩ : ∃ u, us[k]? = some u := ⟨us[k]'(by have := yU.out; omega), List.getElem?_eq_getElem _⟩
 have xa := BO (pg (x := x.c) hk hc)
 have hcr := zS.out k u c hu hc
 have hrr := s5.out.rd sS.out
 obtain ⟨g, og, rfl⟩ : ∃ g og, ta = some ⟨g, og, none⟩ := by
  rcases hrr.2.2 with ⟨_, _, hv, _, _, _, hcase⟩
  cases hv
  rcases hcase with h0 | ⟨g, o, hg, _⟩
  ·omega
  ·exact ⟨g, o, hg⟩
 have hcell : W1.cell? ⟨g, og + k, none⟩ = some u := by
  rcases hrr.2.2 with ⟨_, _, hv, _, _, _, hcase⟩
  cases hv
  rcases hcase with h0 | ⟨g', o', hg, hcl⟩
  ·omega
  ·cases hg; exact hcl k u hu
 have xd := BO hcr
 obtain ⟨_, _, ua, uc, rfl, _⟩ := hcr
 have hb1 : (k : Int) < (N : Int) := by omega
 have hb2 : ¬ (k : Int) ≥ (N : Int) := by omega
 have hb3 : ¬ (k : Int) < 0 := by omega
 have HK := BO hk
 clear hc hu hrr hN hin zS s5
 go_enter Tryz.func104, Tryz.ntmps104
 go_upto_region 1 with fail
 rw [← sR.out]
 clear sR
 generalize w.heap.size = bx at sS ⊢
 obtain ⟨x0, x1, x2⟩ := f7 (sS.out.blk 0 rfl)
 rw [HK.out] at x1
 clear hk
 have sU := BO (sS.out.alloc #[.slice ua c.length uc] dz)
 go_upto_region 4 with fail
 obtain ⟨W3, hW3, hs3⟩ := Sat.hide sU.out
 rw [← hW3]
 clear hW3 sU sS x0 x1 x2 hcell
 generalize W1.heap.size = bt at hs3 ⊢
 have wq := BO (lW (xd.out.rd hs3))
 obtain ⟨t0, tf⟩ := aM (hs3.blk 0 rfl)
 have sU := BO hs3
 clear hs3
 cases hm : fA c
 ·rw [show jw c = false from hm] at wq
  have HO := BO (show bK ts x.c = false by rw [xa.out, hm]; rfl)
  clear hm
  go_wp2_with (go_at_call 150; refine wq.out.mono ?_; rintro e1 w1 ⟨rfl, hk1⟩; have sY := BO (sU.out.kept hk1); clear hk1 wq sU t0 tf)
  go_ret
  exact ⟨by rw [tl.out, HO.out]; rfl, sY.out.drop.drop⟩
 rw [show jw c = true from hm] at wq
 have vD := BO (show bK ts x.c = dC c x.c by rw [xa.out, hm]; rfl)
 have hc1 : 1 ≤ c.length := by unfold fA at hm; simp at hm; exact hm.1
 have HM := BO hm
 clear hm
 go_upto_region 7 with (go_at_call 150; refine wq.out.mono ?_; rintro e1 w1 ⟨rfl, hk1⟩; have sY := BO (sU.out.kept hk1); clear hk1 wq sU t0 tf)
 obtain ⟨t0, tf⟩ := aM (sY.out.blk 0 rfl)
 obtain ⟨x0, x1, x2⟩ := f7 (sY.out.blk 1 rfl)
 have h4 : x.kind = 1 ∨ x.kind = 2 ∨ x.kind = 3 ∨ (¬ x.kind = 1 ∧ ¬ x.kind = 2 ∧ ¬ x.kind = 3) := by omega
 rcases h4 with h | h | h | ⟨n1, n2, n3⟩
 ·rw [h] at x0
  have vn := BO (show dC c x.c = (br x.mode && !decide (x.mode = 0)) by unfold dC; rw [if_pos (show x.c.kind = 1 from h)]; rfl)
  clear h
  by_cases h1 : x.mode ≥ 1
  ·by_cases h6 : x.mode ≤ 6
   ·have HO := BO (show bK ts x.c = true by rw [vD.out, vn.out]; unfold br; simp; omega)
    go_wp2_with fail
    go_ret
    exact ⟨by rw [tl.out, HO.out]; rfl, sY.out.drop.drop⟩
   ·have HO := BO (show bK ts x.c = false by rw [vD.out, vn.out]; unfold br; simp; omega)
    go_wp2_with fail
    go_ret
    exact ⟨by rw [tl.out, HO.out]; rfl, sY.out.drop.drop⟩
  ·have HO := BO (show bK ts x.c = false by rw [vD.out, vn.out]; unfold br; simp; omega)
   go_wp2_with fail
   go_ret
   exact ⟨by rw [tl.out, HO.out]; rfl, sY.out.drop.drop⟩
 ·rw [h] at x0
  have vn := BO (show dC c x.c = cm c x.c by unfold dC; rw [if_neg (show ¬ x.c.kind = 1 by show ¬ x.kind = 1; omega), if_pos (show x.c.kind = 2 from h)])
  clear h
  obtain ⟨y, hy⟩ : ∃ y, c[0]? = some y := ⟨c[0]'(by omega), List.getElem?_eq_getElem _⟩
  obtain ⟨cg, cog, rfl⟩ := gJ (xd.out.rd sY.out) hy rfl
  have hg : c.getD 0 false = y := by rw [List.getD_eq_getElem?_getD, hy]; rfl
  have HY := BO (show ∀ w2 l2, Sat B D w2 l2 → w2.cell? ⟨cg, cog, none⟩ = some (.bool y) from fun w2 l2 s => by have := fo (xd.out.rd s) hy; simpa using this)
  obtain ⟨rb, hrb⟩ : ∃ rb, a9 x.key = rb := ⟨_, rfl⟩
  obtain ⟨im, him⟩ : ∃ im, gH c x.c = im := ⟨_, rfl⟩
  have yY := BO (iU x.key w1)
  have Av := BO (fun w2 (s : Sat B D w2 (blk bt #[.slice (some ⟨cg, cog, none⟩) c.length uc] dz :: blk bx x.cells.toArray tCl :: l)) => oy (xd.out.rd s) (HX.out.rd s))
  rw [hrb] at yY
  rw [him] at Av
  have vq := BO (show (x.mode = 3 ∨ x.mode = 5 ∨ x.mode = 6) → bK ts x.c = (rb && (decide (x.key.t = y) && im)) from fun h => by rw [vD.out, vn.out, nD h, him, hg]; rw [show a9 x.c.key = rb from hrb]; rfl)
  have tK := BO (show ¬ (x.mode = 3 ∨ x.mode = 5 ∨ x.mode = 6) → bK ts x.c = false from fun h => by rw [vD.out, vn.out, qP h])
  obtain ⟨k0, k1, k2⟩ := fM (sY.out.blk 1 rfl)
  obtain ⟨N1, hN1⟩ : ∃ N1, c.length = N1 := ⟨_, rfl⟩
  have yj := BO hN1
  have hc0 : 0 < N1 := by omega
  clear hy hg hrb him hN1
  go_upto_region 12 with (go_at_call 151; refine yY.out.mono ?_; rintro e5 w5 ⟨rfl, hk5⟩; have sV := BO (sY.out.kept hk5); clear hk5 yY sY x0 x1 x2 t0 tf k0 k1 k2)
  obtain ⟨t0, tf⟩ := aM (sV.out.blk 0 rfl)
  have HL := BO (ay (ai (sV.out.blk 1 rfl)))
  have Ba := BO (Av.out w5 sV.out)
  go_upto_region 13 with (first | (refine ag rfl _ _ rfl _ _ rfl _ HL.out ?_) | (go_at_call 152; refine Ba.out.mono ?_; rintro e6 w6 ⟨rfl, hk6⟩; have s0 := BO (sV.out.kept hk6); clear hk6 Ba Av sV HL t0 tf))
  obtain ⟨t0, tf⟩ := aM (s0.out.blk 0 rfl)
  obtain ⟨x0, x1, x2⟩ := f7 (s0.out.blk 1 rfl)
  obtain ⟨k0, k1, k2⟩ := fM (s0.out.blk 1 rfl)
  have hy := HY.out _ _ s0.out
  rw [yj.out] at t0
  have h4 : x.mode = 3 ∨ x.mode = 5 ∨ x.mode = 6 ∨ ¬ (x.mode = 3 ∨ x.mode = 5 ∨ x.mode = 6) := by omega
  rcases h4 with h | h | h | h
  ·skip
   have HV := BO (vq.out (.inl h))
   rw [h] at x2
   clear h vq tK
   cases rb
   ·have HO := BO (show bK ts x.c = false by rw [HV.out]; rfl)
    refine af [(0, false, 999), (1, false, 999), (2, false, 999), (3, false, 999), (4, false, 999), (5, false, 999), (6, false, 999), (7, false, 999), (8, false, 999), (9, false, 999), (10, false, 999), (11, false, 999), (12, false, 999), (13, false, 999), (14, false, 999), (15, false, 999), (16, false, 999), (17, false, 999), (18, false, 999), (19, false, 999), (20, false, 999), (21, false, 999), (22, false, 999), (23, false, 999), (24, false, 999), (25, false, 999), (26, false, 999), (27, false, 999), (28, false, 999), (29, false, 999)] (by kernel_rfl) (by kernel_rfl) ?_
    iterate 4 (refine ae rfl rfl (fun K hK => ?_); go_simp; refine hK _ ?_; clear hK K)
    iterate 3 (first | (refine am rfl rfl ?_; simp only [Act.put, BP, BQ, BR, BS, BT, BU]) | (refine ak rfl rfl (fun K hK => ?_); go_simp; refine hK _ ?_; clear hK K))
    iterate 2 (refine ae rfl rfl (fun K hK => ?_); go_simp; refine hK _ ?_; clear hK K)
    iterate 3 (first | (refine am rfl rfl ?_; simp only [Act.put, BP, BQ, BR, BS, BT, BU]) | (refine ak rfl rfl (fun K hK => ?_); go_simp; refine hK _ ?_; clear hK K))
    iterate 2 (refine ae rfl rfl (fun K hK => ?_); go_simp; refine hK _ ?_; clear hK K)
    first | (refine am rfl rfl ?_; simp only [Act.put, BP, BQ, BR, BS, BT, BU]) | (refine ak rfl rfl (fun K hK => ?_); go_simp; refine hK _ ?_; clear hK K)
    iterate 2 (refine ae rfl rfl (fun K hK => ?_); go_simp; refine hK _ ?_; clear hK K)
    iterate 8 (first | (refine am rfl rfl ?_; simp only [Act.put, BP, BQ, BR, BS, BT, BU]) | (refine ak rfl rfl (fun K hK => ?_); go_simp; refine hK _ ?_; clear hK K))
    iterate 2 (refine ae rfl rfl (fun K hK => ?_); go_simp; refine hK _ ?_; clear hK K)
    first | (refine am rfl rfl ?_; simp only [Act.put, BP, BQ, BR, BS, BT, BU]) | (refine ak rfl rfl (fun K hK => ?_); go_simp; refine hK _ ?_; clear hK K)
    iterate 2 (refine ae rfl rfl (fun K hK => ?_); go_simp; refine hK _ ?_; clear hK K)
    refine ap ?_
    go_wp2_with fail
    go_ret
    exact ⟨by rw [tl.out, HO.out]; rfl, s0.out.drew.drop.drop⟩
   ·by_cases hty : x.key.t = y
    ·have HO := BO (show bK ts x.c = im by rw [HV.out, decide_eq_true hty]; rfl)
     subst hty
     refine af [(0, false, 999), (1, false, 999), (2, false, 999), (3, false, 999), (4, false, 999), (5, false, 999), (6, false, 999), (7, false, 999), (8, false, 999), (9, false, 999), (10, false, 999), (11, false, 999), (12, false, 999), (13, false, 999), (14, false, 999), (15, false, 999), (16, false, 999), (17, false, 999), (18, false, 999), (19, false, 999), (20, false, 999), (21, false, 999), (22, false, 999), (23, false, 999), (24, false, 999), (25, false, 999), (26, false, 999), (27, false, 999), (28, false, 999), (29, false, 999)] (by kernel_rfl) (by kernel_rfl) ?_
     iterate 4 (refine ae rfl rfl (fun K hK => ?_); go_simp; refine hK _ ?_; clear hK K)
     iterate 3 (first | (refine am rfl rfl ?_; simp only [Act.put, BP, BQ, BR, BS, BT, BU]) | (refine ak rfl rfl (fun K hK => ?_); go_simp; refine hK _ ?_; clear hK K))
     iterate 2 (refine ae rfl rfl (fun K hK => ?_); go_simp; refine hK _ ?_; clear hK K)
     iterate 3 (first | (refine am rfl rfl ?_; simp only [Act.put, BP, BQ, BR, BS, BT, BU]) | (refine ak rfl rfl (fun K hK => ?_); go_simp; refine hK _ ?_; clear hK K))
     iterate 2 (refine ae rfl rfl (fun K hK => ?_); go_simp; refine hK _ ?_; clear hK K)
     first | (refine am rfl rfl ?_; simp only [Act.put, BP, BQ, BR, BS, BT, BU]) | (refine ak rfl rfl (fun K hK => ?_); go_simp; refine hK _ ?_; clear hK K)
     iterate 2 (refine ae rfl rfl (fun K hK => ?_); go_simp; refine hK _ ?_; clear hK K)
     iterate 8 (first | (refine am rfl rfl ?_; simp only [Act.put, BP, BQ, BR, BS, BT, BU]) | (refine ak rfl rfl (fun K hK => ?_); go_simp; refine hK _ ?_; clear hK K))
     iterate 2 (refine ae rfl rfl (fun K hK => ?_); go_simp; refine hK _ ?_; clear hK K)
     first | (refine am rfl rfl ?_; simp only [Act.put, BP, BQ, BR, BS, BT, BU]) | (refine ak rfl rfl (fun K hK => ?_); go_simp; refine hK _ ?_; clear hK K)
     iterate 2 (refine ae rfl rfl (fun K hK => ?_); go_simp; refine hK _ ?_; clear hK K)
     refine ap ?_
     go_wp2_with fail
     go_ret
     exact ⟨by rw [tl.out, HO.out]; rfl, s0.out.drew.drop.drop⟩
    ·have HO := BO (show bK ts x.c = false by rw [HV.out, decide_eq_false hty]; rfl)
     obtain rfl : y = !x.key.t := by cases y <;> cases h : x.key.t <;> simp_all
     clear hty
     refine af [(0, false, 999), (1, false, 999), (2, false, 999), (3, false, 999), (4, false, 999), (5, false, 999), (6, false, 999), (7, false, 999), (8, false, 999), (9, false, 999), (10, false, 999), (11, false, 999), (12, false, 999), (13, false, 999), (14, false, 999), (15, false, 999), (16, false, 999), (17, false, 999), (18, false, 999), (19, false, 999), (20, false, 999), (21, false, 999), (22, false, 999), (23, false, 999), (24, false, 999), (25, false, 999), (26, false, 999), (27, false, 999), (28, false, 999), (29, false, 999)] (by kernel_rfl) (by kernel_rfl) ?_
     iterate 4 (refine ae rfl rfl (fun K hK => ?_); go_simp; refine hK _ ?_; clear hK K)
     iterate 3 (first | (refine am rfl rfl ?_; simp only [Act.put, BP, BQ, BR, BS, BT, BU]) | (refine ak rfl rfl (fun K hK => ?_); go_simp; refine hK _ ?_; clear hK K))
     iterate 2 (refine ae rfl rfl (fun K hK => ?_); go_simp; refine hK _ ?_; clear hK K)
     iterate 3 (first | (refine am rfl rfl ?_; simp only [Act.put, BP, BQ, BR, BS, BT, BU]) | (refine ak rfl rfl (fun K hK => ?_); go_simp; refine hK _ ?_; clear hK K))
     iterate 2 (refine ae rfl rfl (fun K hK => ?_); go_simp; refine hK _ ?_; clear hK K)
     first | (refine am rfl rfl ?_; simp only [Act.put, BP, BQ, BR, BS, BT, BU]) | (refine ak rfl rfl (fun K hK => ?_); go_simp; refine hK _ ?_; clear hK K)
     iterate 2 (refine ae rfl rfl (fun K hK => ?_); go_simp; refine hK _ ?_; clear hK K)
     iterate 8 (first | (refine am rfl rfl ?_; simp only [Act.put, BP, BQ, BR, BS, BT, BU]) | (refine ak rfl rfl (fun K hK => ?_); go_simp; refine hK _ ?_; clear hK K))
     iterate 2 (refine ae rfl rfl (fun K hK => ?_); go_simp; refine hK _ ?_; clear hK K)
     first | (refine am rfl rfl ?_; simp only [Act.put, BP, BQ, BR, BS, BT, BU]) | (refine ak rfl rfl (fun K hK => ?_); go_simp; refine hK _ ?_; clear hK K)
     iterate 2 (refine ae rfl rfl (fun K hK => ?_); go_simp; refine hK _ ?_; clear hK K)
     refine ap ?_
     go_wp2_with fail
     go_ret
     exact ⟨by rw [tl.out, HO.out]; rfl, s0.out.drew.drop.drop⟩
  ·skip
   have HV := BO (vq.out (.inr (.inl h)))
   rw [h] at x2
   clear h vq tK
   cases rb
   ·have HO := BO (show bK ts x.c = false by rw [HV.out]; rfl)
    refine af [(0, false, 999), (1, false, 999), (2, false, 999), (3, false, 999), (4, false, 999), (5, false, 999), (6, false, 999), (7, false, 999), (8, false, 999), (9, false, 999), (10, false, 999), (11, false, 999), (12, false, 999), (13, false, 999), (14, false, 999), (15, false, 999), (16, false, 999), (17, false, 999), (18, false, 999), (19, false, 999), (20, false, 999), (21, false, 999), (22, false, 999), (23, false, 999), (24, false, 999), (25, false, 999), (26, false, 999), (27, false, 999), (28, false, 999), (29, false, 999)] (by kernel_rfl) (by kernel_rfl) ?_
    iterate 4 (refine ae rfl rfl (fun K hK => ?_); go_simp; refine hK _ ?_; clear hK K)
    iterate 3 (first | (refine am rfl rfl ?_; simp only [Act.put, BP, BQ, BR, BS, BT, BU]) | (refine ak rfl rfl (fun K hK => ?_); go_simp; refine hK _ ?_; clear hK K))
    iterate 2 (refine ae rfl rfl (fun K hK => ?_); go_simp; refine hK _ ?_; clear hK K)
    iterate 3 (first | (refine am rfl rfl ?_; simp only [Act.put, BP, BQ, BR, BS, BT, BU]) | (refine ak rfl rfl (fun K hK => ?_); go_simp; refine hK _ ?_; clear hK K))
    iterate 2 (refine ae rfl rfl (fun K hK => ?_); go_simp; refine hK _ ?_; clear hK K)
    first | (refine am rfl rfl ?_; simp only [Act.put, BP, BQ, BR, BS, BT, BU]) | (refine ak rfl rfl (fun K hK => ?_); go_simp; refine hK _ ?_; clear hK K)
    iterate 2 (refine ae rfl rfl (fun K hK => ?_); go_simp; refine hK _ ?_; clear hK K)
    iterate 8 (first | (refine am rfl rfl ?_; simp only [Act.put, BP, BQ, BR, BS, BT, BU]) | (refine ak rfl rfl (fun K hK => ?_); go_simp; refine hK _ ?_; clear hK K))
    iterate 2 (refine ae rfl rfl (fun K hK => ?_); go_simp; refine hK _ ?_; clear hK K)
    first | (refine am rfl rfl ?_; simp only [Act.put, BP, BQ, BR, BS, BT, BU]) | (refine ak rfl rfl (fun K hK => ?_); go_simp; refine hK _ ?_; clear hK K)
    iterate 2 (refine ae rfl rfl (fun K hK => ?_); go_simp; refine hK _ ?_; clear hK K)
    refine ap ?_
    go_wp2_with fail
    go_ret
    exact ⟨by rw [tl.out, HO.out]; rfl, s0.out.drew.drop.drop⟩
   ·by_cases hty : x.key.t = y
    ·have HO := BO (show bK ts x.c = im by rw [HV.out, decide_eq_true hty]; rfl)
     subst hty
     refine af [(0, false, 999), (1, false, 999), (2, false, 999), (3, false, 999), (4, false, 999), (5, false, 999), (6, false, 999), (7, false, 999), (8, false, 999), (9, false, 999), (10, false, 999), (11, false, 999), (12, false, 999), (13, false, 999), (14, false, 999), (15, false, 999), (16, false, 999), (17, false, 999), (18, false, 999), (19, false, 999), (20, false, 999), (21, false, 999), (22, false, 999), (23, false, 999), (24, false, 999), (25, false, 999), (26, false, 999), (27, false, 999), (28, false, 999), (29, false, 999)] (by kernel_rfl) (by kernel_rfl) ?_
     iterate 4 (refine ae rfl rfl (fun K hK => ?_); go_simp; refine hK _ ?_; clear hK K)
     iterate 3 (first | (refine am rfl rfl ?_; simp only [Act.put, BP, BQ, BR, BS, BT, BU]) | (refine ak rfl rfl (fun K hK => ?_); go_simp; refine hK _ ?_; clear hK K))
     iterate 2 (refine ae rfl rfl (fun K hK => ?_); go_simp; refine hK _ ?_; clear hK K)
     iterate 3 (first | (refine am rfl rfl ?_; simp only [Act.put, BP, BQ, BR, BS, BT, BU]) | (refine ak rfl rfl (fun K hK => ?_); go_simp; refine hK _ ?_; clear hK K))
     iterate 2 (refine ae rfl rfl (fun K hK => ?_); go_simp; refine hK _ ?_; clear hK K)
     first | (refine am rfl rfl ?_; simp only [Act.put, BP, BQ, BR, BS, BT, BU]) | (refine ak rfl rfl (fun K hK => ?_); go_simp; refine hK _ ?_; clear hK K)
     iterate 2 (refine ae rfl rfl (fun K hK => ?_); go_simp; refine hK _ ?_; clear hK K)
     iterate 8 (first | (refine am rfl rfl ?_; simp only [Act.put, BP, BQ, BR, BS, BT, BU]) | (refine ak rfl rfl (fun K hK => ?_); go_simp; refine hK _ ?_; clear hK K))
     iterate 2 (refine ae rfl rfl (fun K hK => ?_); go_simp; refine hK _ ?_; clear hK K)
     first | (refine am rfl rfl ?_; simp only [Act.put, BP, BQ, BR, BS, BT, BU]) | (refine ak rfl rfl (fun K hK => ?_); go_simp; refine hK _ ?_; clear hK K)
     iterate 2 (refine ae rfl rfl (fun K hK => ?_); go_simp; refine hK _ ?_; clear hK K)
     refine ap ?_
     go_wp2_with fail
     go_ret
     exact ⟨by rw [tl.out, HO.out]; rfl, s0.out.drew.drop.drop⟩
    ·have HO := BO (show bK ts x.c = false by rw [HV.out, decide_eq_false hty]; rfl)
     obtain rfl : y = !x.key.t := by cases y <;> cases h : x.key.t <;> simp_all
     clear hty
     refine af [(0, false, 999), (1, false, 999), (2, false, 999), (3, false, 999), (4, false, 999), (5, false, 999), (6, false, 999), (7, false, 999), (8, false, 999), (9, false, 999), (10, false, 999), (11, false, 999), (12, false, 999), (13, false, 999), (14, false, 999), (15, false, 999), (16, false, 999), (17, false, 999), (18, false, 999), (19, false, 999), (20, false, 999), (21, false, 999), (22, false, 999), (23, false, 999), (24, false, 999), (25, false, 999), (26, false, 999), (27, false, 999), (28, false, 999), (29, false, 999)] (by kernel_rfl) (by kernel_rfl) ?_
     iterate 4 (refine ae rfl rfl (fun K hK => ?_); go_simp; refine hK _ ?_; clear hK K)
     iterate 3 (first | (refine am rfl rfl ?_; simp only [Act.put, BP, BQ, BR, BS, BT, BU]) | (refine ak rfl rfl (fun K hK => ?_); go_simp; refine hK _ ?_; clear hK K))
     iterate 2 (refine ae rfl rfl (fun K hK => ?_); go_simp; refine hK _ ?_; clear hK K)
     iterate 3 (first | (refine am rfl rfl ?_; simp only [Act.put, BP, BQ, BR, BS, BT, BU]) | (refine ak rfl rfl (fun K hK => ?_); go_simp; refine hK _ ?_; clear hK K))
     iterate 2 (refine ae rfl rfl (fun K hK => ?_); go_simp; refine hK _ ?_; clear hK K)
     first | (refine am rfl rfl ?_; simp only [Act.put, BP, BQ, BR, BS, BT, BU]) | (refine ak rfl rfl (fun K hK => ?_); go_simp; refine hK _ ?_; clear hK K)
     iterate 2 (refine ae rfl rfl (fun K hK => ?_); go_simp; refine hK _ ?_; clear hK K)
     iterate 8 (first | (refine am rfl rfl ?_; simp only [Act.put, BP, BQ, BR, BS, BT, BU]) | (refine ak rfl rfl (fun K hK => ?_); go_simp; refine hK _ ?_; clear hK K))
     iterate 2 (refine ae rfl rfl (fun K hK => ?_); go_simp; refine hK _ ?_; clear hK K)
     first | (refine am rfl rfl ?_; simp only [Act.put, BP, BQ, BR, BS, BT, BU]) | (refine ak rfl rfl (fun K hK => ?_); go_simp; refine hK _ ?_; clear hK K)
     iterate 2 (refine ae rfl rfl (fun K hK => ?_); go_simp; refine hK _ ?_; clear hK K)
     refine ap ?_
     go_wp2_with fail
     go_ret
     exact ⟨by rw [tl.out, HO.out]; rfl, s0.out.drew.drop.drop⟩
  ·skip
   have HV := BO (vq.out (.inr (.inr h)))
   rw [h] at x2
   clear h vq tK
   cases rb
   ·have HO := BO (show bK ts x.c = false by rw [HV.out]; rfl)
    refine af [(0, false, 999), (1, false, 999), (2, false, 999), (3, false, 999), (4, false, 999), (5, false, 999), (6, false, 999), (7, false, 999), (8, false, 999), (9, false, 999), (10, false, 999), (11, false, 999), (12, false, 999), (13, false, 999), (14, false, 999), (15, false, 999), (16, false, 999), (17, false, 999), (18, false, 999), (19, false, 999), (20, false, 999), (21, false, 999), (22, false, 999), (23, false, 999), (24, false, 999), (25, false, 999), (26, false, 999), (27, false, 999), (28, false, 999), (29, false, 999)] (by kernel_rfl) (by kernel_rfl) ?_
    iterate 4 (refine ae rfl rfl (fun K hK => ?_); go_simp; refine hK _ ?_; clear hK K)
    iterate 3 (first | (refine am rfl rfl ?_; simp only [Act.put, BP, BQ, BR, BS, BT, BU]) | (refine ak rfl rfl (fun K hK => ?_); go_simp; refine hK _ ?_; clear hK K))
    iterate 2 (refine ae rfl rfl (fun K hK => ?_); go_simp; refine hK _ ?_; clear hK K)
    iterate 3 (first | (refine am rfl rfl ?_; simp only [Act.put, BP, BQ, BR, BS, BT, BU]) | (refine ak rfl rfl (fun K hK => ?_); go_simp; refine hK _ ?_; clear hK K))
    iterate 2 (refine ae rfl rfl (fun K hK => ?_); go_simp; refine hK _ ?_; clear hK K)
    first | (refine am rfl rfl ?_; simp only [Act.put, BP, BQ, BR, BS, BT, BU]) | (refine ak rfl rfl (fun K hK => ?_); go_simp; refine hK _ ?_; clear hK K)
    iterate 2 (refine ae rfl rfl (fun K hK => ?_); go_simp; refine hK _ ?_; clear hK K)
    iterate 8 (first | (refine am rfl rfl ?_; simp only [Act.put, BP, BQ, BR, BS, BT, BU]) | (refine ak rfl rfl (fun K hK => ?_); go_simp; refine hK _ ?_; clear hK K))
    iterate 2 (refine ae rfl rfl (fun K hK => ?_); go_simp; refine hK _ ?_; clear hK K)
    first | (refine am rfl rfl ?_; simp only [Act.put, BP, BQ, BR, BS, BT, BU]) | (refine ak rfl rfl (fun K hK => ?_); go_simp; refine hK _ ?_; clear hK K)
    iterate 2 (refine ae rfl rfl (fun K hK => ?_); go_simp; refine hK _ ?_; clear hK K)
    refine ap ?_
    go_wp2_with fail
    go_ret
    exact ⟨by rw [tl.out, HO.out]; rfl, s0.out.drew.drop.drop⟩
   ·by_cases hty : x.key.t = y
    ·have HO := BO (show bK ts x.c = im by rw [HV.out, decide_eq_true hty]; rfl)
     subst hty
     refine af [(0, false, 999), (1, false, 999), (2, false, 999), (3, false, 999), (4, false, 999), (5, false, 999), (6, false, 999), (7, false, 999), (8, false, 999), (9, false, 999), (10, false, 999), (11, false, 999), (12, false, 999), (13, false, 999), (14, false, 999), (15, false, 999), (16, false, 999), (17, false, 999), (18, false, 999), (19, false, 999), (20, false, 999), (21, false, 999), (22, false, 999), (23, false, 999), (24, false, 999), (25, false, 999), (26, false, 999), (27, false, 999), (28, false, 999), (29, false, 999)] (by kernel_rfl) (by kernel_rfl) ?_
     iterate 4 (refine ae rfl rfl (fun K hK => ?_); go_simp; refine hK _ ?_; clear hK K)
     iterate 3 (first | (refine am rfl rfl ?_; simp only [Act.put, BP, BQ, BR, BS, BT, BU]) | (refine ak rfl rfl (fun K hK => ?_); go_simp; refine hK _ ?_; clear hK K))
     iterate 2 (refine ae rfl rfl (fun K hK => ?_); go_simp; refine hK _ ?_; clear hK K)
     iterate 3 (first | (refine am rfl rfl ?_; simp only [Act.put, BP, BQ, BR, BS, BT, BU]) | (refine ak rfl rfl (fun K hK => ?_); go_simp; refine hK _ ?_; clear hK K))
     iterate 2 (refine ae rfl rfl (fun K hK => ?_); go_simp; refine hK _ ?_; clear hK K)
     first | (refine am rfl rfl ?_; simp only [Act.put, BP, BQ, BR, BS, BT, BU]) | (refine ak rfl rfl (fun K hK => ?_); go_simp; refine hK _ ?_; clear hK K)
     iterate 2 (refine ae rfl rfl (fun K hK => ?_); go_simp; refine hK _ ?_; clear hK K)
     iterate 8 (first | (refine am rfl rfl ?_; simp only [Act.put, BP, BQ, BR, BS, BT, BU]) | (refine ak rfl rfl (fun K hK => ?_); go_simp; refine hK _ ?_; clear hK K))
     iterate 2 (refine ae rfl rfl (fun K hK => ?_); go_simp; refine hK _ ?_; clear hK K)
     first | (refine am rfl rfl ?_; simp only [Act.put, BP, BQ, BR, BS, BT, BU]) | (refine ak rfl rfl (fun K hK => ?_); go_simp; refine hK _ ?_; clear hK K)
     iterate 2 (refine ae rfl rfl (fun K hK => ?_); go_simp; refine hK _ ?_; clear hK K)
     refine ap ?_
     go_wp2_with fail
     go_ret
     exact ⟨by rw [tl.out, HO.out]; rfl, s0.out.drew.drop.drop⟩
    ·have HO := BO (show bK ts x.c = false by rw [HV.out, decide_eq_false hty]; rfl)
     obtain rfl : y = !x.key.t := by cases y <;> cases h : x.key.t <;> simp_all
     clear hty
     refine af [(0, false, 999), (1, false, 999), (2, false, 999), (3, false, 999), (4, false, 999), (5, false, 999), (6, false, 999), (7, false, 999), (8, false, 999), (9, false, 999), (10, false, 999), (11, false, 999), (12, false, 999), (13, false, 999), (14, false, 999), (15, false, 999), (16, false, 999), (17, false, 999), (18, false, 999), (19, false, 999), (20, false, 999), (21, false, 999), (22, false, 999), (23, false, 999), (24, false, 999), (25, false, 999), (26, false, 999), (27, false, 999), (28, false, 999), (29, false, 999)] (by kernel_rfl) (by kernel_rfl) ?_
     iterate 4 (refine ae rfl rfl (fun K hK => ?_); go_simp; refine hK _ ?_; clear hK K)
     iterate 3 (first | (refine am rfl rfl ?_; simp only [Act.put, BP, BQ, BR, BS, BT, BU]) | (refine ak rfl rfl (fun K hK => ?_); go_simp; refine hK _ ?_; clear hK K))
     iterate 2 (refine ae rfl rfl (fun K hK => ?_); go_simp; refine hK _ ?_; clear hK K)
     iterate 3 (first | (refine am rfl rfl ?_; simp only [Act.put, BP, BQ, BR, BS, BT, BU]) | (refine ak rfl rfl (fun K hK => ?_); go_simp; refine hK _ ?_; clear hK K))
     iterate 2 (refine ae rfl rfl (fun K hK => ?_); go_simp; refine hK _ ?_; clear hK K)
     first | (refine am rfl rfl ?_; simp only [Act.put, BP, BQ, BR, BS, BT, BU]) | (refine ak rfl rfl (fun K hK => ?_); go_simp; refine hK _ ?_; clear hK K)
     iterate 2 (refine ae rfl rfl (fun K hK => ?_); go_simp; refine hK _ ?_; clear hK K)
     iterate 8 (first | (refine am rfl rfl ?_; simp only [Act.put, BP, BQ, BR, BS, BT, BU]) | (refine ak rfl rfl (fun K hK => ?_); go_simp; refine hK _ ?_; clear hK K))
     iterate 2 (refine ae rfl rfl (fun K hK => ?_); go_simp; refine hK _ ?_; clear hK K)
     first | (refine am rfl rfl ?_; simp only [Act.put, BP, BQ, BR, BS, BT, BU]) | (refine ak rfl rfl (fun K hK => ?_); go_simp; refine hK _ ?_; clear hK K)
     iterate 2 (refine ae rfl rfl (fun K hK => ?_); go_simp; refine hK _ ?_; clear hK K)
     refine ap ?_
     go_wp2_with fail
     go_ret
     exact ⟨by rw [tl.out, HO.out]; rfl, s0.out.drew.drop.drop⟩
  ·have HO := BO (tK.out h)
   have e3 : (x.mode == 3) = false := by simp; omega
   have e5 : (x.mode == 5) = false := by simp; omega
   have e6 : (x.mode == 6) = false := by simp; omega
   clear h vq tK
   refine af [(0, false, 999), (1, false, 999), (2, false, 999), (3, false, 999), (4, false, 999), (5, false, 999), (6, false, 999), (7, false, 999), (8, false, 999), (9, false, 999), (10, false, 999), (11, false, 999), (12, false, 999), (13, false, 999), (14, false, 999), (15, false, 999), (16, false, 999), (17, false, 999), (18, false, 999), (19, false, 999), (20, false, 999), (21, false, 999), (22, false, 999), (23, false, 999), (24, false, 999), (25, false, 999), (26, false, 999), (27, false, 999), (28, false, 999), (29, false, 999)] (by kernel_rfl) (by kernel_rfl) ?_
   iterate 4 (refine ae rfl rfl (fun K hK => ?_); go_simp; refine hK _ ?_; clear hK K)
   iterate 3 (first | (refine am rfl rfl ?_; simp only [Act.put, BP, BQ, BR, BS, BT, BU]) | (refine ak rfl rfl (fun K hK => ?_); go_simp; refine hK _ ?_; clear hK K))
   iterate 2 (refine ae rfl rfl (fun K hK => ?_); go_simp; refine hK _ ?_; clear hK K)
   iterate 3 (first | (refine am rfl rfl ?_; simp only [Act.put, BP, BQ, BR, BS, BT, BU]) | (refine ak rfl rfl (fun K hK => ?_); go_simp; refine hK _ ?_; clear hK K))
   iterate 2 (refine ae rfl rfl (fun K hK => ?_); go_simp; refine hK _ ?_; clear hK K)
   first | (refine am rfl rfl ?_; simp only [Act.put, BP, BQ, BR, BS, BT, BU]) | (refine ak rfl rfl (fun K hK => ?_); go_simp; refine hK _ ?_; clear hK K)
   iterate 2 (refine ae rfl rfl (fun K hK => ?_); go_simp; refine hK _ ?_; clear hK K)
   iterate 8 (first | (refine am rfl rfl ?_; simp only [Act.put, BP, BQ, BR, BS, BT, BU]) | (refine ak rfl rfl (fun K hK => ?_); go_simp; refine hK _ ?_; clear hK K))
   iterate 2 (refine ae rfl rfl (fun K hK => ?_); go_simp; refine hK _ ?_; clear hK K)
   first | (refine am rfl rfl ?_; simp only [Act.put, BP, BQ, BR, BS, BT, BU]) | (refine ak rfl rfl (fun K hK => ?_); go_simp; refine hK _ ?_; clear hK K)
   iterate 2 (refine ae rfl rfl (fun K hK => ?_); go_simp; refine hK _ ?_; clear hK K)
   refine ap ?_
   go_wp2_with fail
   go_ret
   exact ⟨by rw [tl.out, HO.out]; rfl, s0.out.drew.drop.drop⟩
 ·rw [h] at x0
  have vn := BO (show dC c x.c = (decide (x.mode = 3) && cA c x.pr.p) by unfold dC; rw [if_neg (show ¬ x.c.kind = 1 by show ¬ x.kind = 1; omega), if_neg (show ¬ x.c.kind = 2 by show ¬ x.kind = 2; omega), if_pos (show x.c.kind = 3 from h)]; rfl)
  clear h
  have xH := BO (r6 x.pr (xd.out.rd sY.out) HM.out (HX.out.rd sY.out).2 yT.out)
  have vC := BO (bu (eF (sY.out.blk 1 rfl)))
  obtain ⟨pm, hpm⟩ : ∃ pm, cA c x.pr.p = pm := ⟨_, rfl⟩
  rw [hpm] at xH vn
  clear hpm
  go_upto_region 16 with (first | (refine bG rfl _ _ rfl _ _ rfl _ vC.out ?_) | (go_at_call 153; refine xH.out.mono ?_; rintro e5 w5 ⟨rfl, hk5⟩; have sV := BO (sY.out.kept hk5); clear hk5 xH sY vC x0 x1 x2 t0 tf))
  obtain ⟨x0, x1, x2⟩ := f7 (sV.out.blk 1 rfl)
  by_cases hz : x.mode = 3
  ·have HO := BO (show bK ts x.c = pm by rw [vD.out, vn.out, decide_eq_true hz]; rfl)
   rw [hz] at x2
   clear hz
   go_wp2_with fail
   go_ret
   exact ⟨by rw [tl.out, HO.out]; rfl, sV.out.drop.drop⟩
  ·have HO := BO (show bK ts x.c = false by rw [vD.out, vn.out, decide_eq_false hz]; rfl)
   have hz1 : (x.mode == 3) = false := by simpa using hz
   clear hz
   go_wp2_with fail
   go_ret
   exact ⟨by rw [tl.out, HO.out]; rfl, sV.out.drop.drop⟩
 ·have HO := BO (show bK ts x.c = false by rw [vD.out]; unfold dC; rw [if_neg (show ¬ x.c.kind = 1 from n1), if_neg (show ¬ x.c.kind = 2 from n2), if_neg (show ¬ x.c.kind = 3 from n3)])
  go_wp2_with fail
  go_ret
  exact ⟨by rw [tl.out, HO.out]; rfl, sY.out.drop.drop⟩
end Go.Proofs.YtgljdkjepdknnaaGreatDoor
