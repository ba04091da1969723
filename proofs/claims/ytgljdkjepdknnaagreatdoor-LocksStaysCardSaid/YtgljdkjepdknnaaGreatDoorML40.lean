/- The document's May of a claim (ratlineref09.May). (printed by genrm5.py) -/
import Derived.Test.YtgljdkjepdknnaaGreatDoorML39
set_option maxHeartbeats 64000000
namespace Go.Proofs.YtgljdkjepdknnaaGreatDoor
open Go.ChangeShapes Go.WideShapes Go.ChangeAt Go.RowKit
set_option maxRecDepth 100000
set_option linter.unusedSimpArgs false
theorem pL {c : List Bool} {x : Clm} (h : x.mode = 3 ∨ x.mode = 5 ∨ x.mode = 6) : cD c x = (bi x.key && (decide (x.key.t = c.getD 0 false) && iq c x)) := by
 unfold cD iq
 rw [Bool.and_assoc]
 congr 2
 rcases h with h | h | h <;> rw [h] <;> rfl
theorem r6 {c : List Bool} {x : Clm} (h : ¬ (x.mode = 3 ∨ x.mode = 5 ∨ x.mode = 6)) : cD c x = false := by
 unfold cD
 rw [if_neg (by omega), if_neg (by omega)]
 simp
theorem rMay_ok {B w : World} {D : PH} {l : List HP} {tv : Value} {ts : List (List Bool)} (ht : TblsAt D tv ts) (x : ClmE) (hx : ClOk D x) (hnd : x.pr.p.nodes.length ≤ 1000000) (hs : Sat B D w l) :
  Calls Tryz.prog 104 #[tv, .agg x.cells.toArray] w fun e w' => e = .returned (.bool (bH ts x.c)) ∧ Sat B D w' l := by
 obtain ⟨rr, hrr⟩ : ∃ rr, rr = bH ts x.c := ⟨_, rfl⟩
 rw [← hrr]
 have vA := Eh hrr
 clear hrr
 obtain ⟨us, hl, hone, hrd, hth⟩ := ht
 obtain ⟨ta, tc, rfl⟩ := hrd.shape
 obtain ⟨W1, hW1, hs1⟩ := Sat.hide (hs.alloc x.cells.toArray tCl)
 have uW := Eh hW1
 have uX := Eh hs1
 have hml := hrd.2.1
 unfold maxLen at hml
 have vk := Eh hrd
 have Cb := Eh hth
 have HX := Eh hx
 have Bj := Eh hnd
 have Bk := Eh hl
 obtain ⟨N, hN⟩ : ∃ N, ts.length = N := ⟨_, rfl⟩
 have HN := Eh hN
 rw [hN] at hml vk
 rw [hN]
 clear hs hs1 hW1 hth hrd hx hnd hl hone
 by_cases hin : 0 ≤ x.table ∧ x.table < (N : Int)
 rotate_left
 ·have HO := Eh (show bH ts x.c = false from oV (by rw [hN]; exact hin))
  clear hN
  by_cases h0 : x.table < 0
  ·go_enter Tryz.func104, Tryz.ntmps104
   go_upto_region 1 with fail
   rw [← uW.out]
   clear uW
   generalize w.heap.size = bx at uX ⊢
   obtain ⟨x0, x1, x2⟩ := gM (uX.out.blk 0 rfl)
   go_wp2_with fail
   go_ret
   exact ⟨by rw [vA.out, HO.out]; rfl, uX.out.drop⟩
  ·have h1 : x.table ≥ (N : Int) := by omega
   go_enter Tryz.func104, Tryz.ntmps104
   go_upto_region 1 with fail
   rw [← uW.out]
   clear uW
   generalize w.heap.size = bx at uX ⊢
   obtain ⟨x0, x1, x2⟩ := gM (uX.out.blk 0 rfl)
   go_wp2_with fail
   go_ret
   exact ⟨by rw [vA.out, HO.out]; rfl, uX.out.drop⟩
 obtain ⟨k, hk⟩ : ∃ k : Nat, x.table = (k : Int) := ⟨x.table.toNat, by omega⟩
 have hkN : k < N := by omega
 obtain ⟨c, hc⟩ : ∃ c, ts[k]? = some c := ⟨ts[k]'(by omega), List.getElem?_eq_getElem _⟩
 obtain ⟨u, hu⟩ : ∃ u, us[k]? = some u := ⟨us[k]'(by have := Bk.out; omega), List.getElem?_eq_getElem _⟩
 have zD := Eh (rE (x := x.c) hk hc)
 have hcr := Cb.out k u c hu hc
 have hrr := vk.out.rd uX.out
 obtain ⟨g, og, rfl⟩ : ∃ g og, ta = some ⟨g, og, none⟩ := by
  rcases hrr.2.2 with ⟨_, _, hv, _, _, _, hcase⟩
  cases hv
  rcases hcase with h0 | ⟨g, o, hg, _⟩
  ·omega
  ·exact ⟨g, o, hg⟩
 have hcell : W1.cell? ⟨g, og + k, none⟩ = some u := by
  rcases hrr.2.2 with ⟨_, _, hv, _, _, _, hcase⟩
  cases hv
  rcases hcase with h0 | ⟨g', o', hg, hcl⟩
  ·omega
  ·cases hg; exact hcl k u hu
 have zF := Eh hcr
 obtain ⟨_, _, ua, uc, rfl, _⟩ := hcr
 have hb1 : (k : Int) < (N : Int) := by omega
 have hb2 : ¬ (k : Int) ≥ (N : Int) := by omega
 have hb3 : ¬ (k : Int) < 0 := by omega
 have HK := Eh hk
 clear hc hu hrr hN hin Cb vk
 go_enter Tryz.func104, Tryz.ntmps104
 go_upto_region 1 with fail
 rw [← uW.out]
 clear uW
 generalize w.heap.size = bx at uX ⊢
 obtain ⟨x0, x1, x2⟩ := gM (uX.out.blk 0 rfl)
 rw [HK.out] at x1
 clear hk
 have uY := Eh (uX.out.alloc #[.slice ua c.length uc] dO)
 go_upto_region 4 with fail
 obtain ⟨W3, hW3, hs3⟩ := Sat.hide uY.out
 rw [← hW3]
 clear hW3 uY uX x0 x1 x2 hcell
 generalize W1.heap.size = bt at hs3 ⊢
 have yV := Eh (nF (zF.out.rd hs3))
 obtain ⟨t0, tf⟩ := aK (hs3.blk 0 rfl)
 have uY := Eh hs3
 clear hs3
 cases hm : gm c
 ·rw [show kv c = false from hm] at yV
  have HO := Eh (show bH ts x.c = false by rw [zD.out, hm]; rfl)
  clear hm
  go_wp2_with (go_at_call 150; refine yV.out.mono ?_; rintro e1 w1 ⟨rfl, hk1⟩; have vh := Eh (uY.out.kept hk1); clear hk1 yV uY t0 tf)
  go_ret
  exact ⟨by rw [vA.out, HO.out]; rfl, vh.out.drop.drop⟩
 rw [show kv c = true from hm] at yV
 have yn := Eh (show bH ts x.c = dS c x.c by rw [zD.out, hm]; rfl)
 have hc1 : 1 ≤ c.length := by unfold gm at hm; simp at hm; exact hm.1
 have HM := Eh hm
 clear hm
 go_upto_region 7 with (go_at_call 150; refine yV.out.mono ?_; rintro e1 w1 ⟨rfl, hk1⟩; have vh := Eh (uY.out.kept hk1); clear hk1 yV uY t0 tf)
 obtain ⟨t0, tf⟩ := aK (vh.out.blk 0 rfl)
 obtain ⟨x0, x1, x2⟩ := gM (vh.out.blk 1 rfl)
 have h4 : x.kind = 1 ∨ x.kind = 2 ∨ x.kind = 3 ∨ (¬ x.kind = 1 ∧ ¬ x.kind = 2 ∧ ¬ x.kind = 3) := by omega
 rcases h4 with h | h | h | ⟨n1, n2, n3⟩
 ·rw [h] at x0
  have xS := Eh (show dS c x.c = (bG x.mode && !decide (x.mode = 0)) by unfold dS; rw [if_pos (show x.c.kind = 1 from h)]; rfl)
  clear h
  by_cases h1 : x.mode ≥ 1
  ·by_cases h6 : x.mode ≤ 6
   ·have HO := Eh (show bH ts x.c = true by rw [yn.out, xS.out]; unfold bG; simp; omega)
    go_wp2_with fail
    go_ret
    exact ⟨by rw [vA.out, HO.out]; rfl, vh.out.drop.drop⟩
   ·have HO := Eh (show bH ts x.c = false by rw [yn.out, xS.out]; unfold bG; simp; omega)
    go_wp2_with fail
    go_ret
    exact ⟨by rw [vA.out, HO.out]; rfl, vh.out.drop.drop⟩
  ·have HO := Eh (show bH ts x.c = false by rw [yn.out, xS.out]; unfold bG; simp; omega)
   go_wp2_with fail
   go_ret
   exact ⟨by rw [vA.out, HO.out]; rfl, vh.out.drop.drop⟩
 ·rw [h] at x0
  have xS := Eh (show dS c x.c = cD c x.c by unfold dS; rw [if_neg (show ¬ x.c.kind = 1 by show ¬ x.kind = 1; omega), if_pos (show x.c.kind = 2 from h)])
  clear h
  obtain ⟨y, hy⟩ : ∃ y, c[0]? = some y := ⟨c[0]'(by omega), List.getElem?_eq_getElem _⟩
  obtain ⟨cg, cog, rfl⟩ := iA (zF.out.rd vh.out) hy rfl
  have hg : c.getD 0 false = y := by rw [List.getD_eq_getElem?_getD, hy]; rfl
  have HY := Eh (show ∀ w2 l2, Sat B D w2 l2 → w2.cell? ⟨cg, cog, none⟩ = some (.bool y) from fun w2 l2 s => by have := fZ (zF.out.rd s) hy; simpa using this)
  obtain ⟨rb, hrb⟩ : ∃ rb, bi x.key = rb := ⟨_, rfl⟩
  obtain ⟨im, him⟩ : ∃ im, iq c x.c = im := ⟨_, rfl⟩
  have Bp := Eh (jQ x.key w1)
  have CF := Eh (fun w2 (s : Sat B D w2 (blk bt #[.slice (some ⟨cg, cog, none⟩) c.length uc] dO :: blk bx x.cells.toArray tCl :: l)) => pO (zF.out.rd s) (HX.out.rd s))
  rw [hrb] at Bp
  rw [him] at CF
  have xU := Eh (show (x.mode = 3 ∨ x.mode = 5 ∨ x.mode = 6) → bH ts x.c = (rb && (decide (x.key.t = y) && im)) from fun h => by rw [yn.out, xS.out, pL h, him, hg]; rw [show bi x.c.key = rb from hrb]; rfl)
  have vT := Eh (show ¬ (x.mode = 3 ∨ x.mode = 5 ∨ x.mode = 6) → bH ts x.c = false from fun h => by rw [yn.out, xS.out, r6 h])
  obtain ⟨k0, k1, k2⟩ := gD (vh.out.blk 1 rfl)
  obtain ⟨N1, hN1⟩ : ∃ N1, c.length = N1 := ⟨_, rfl⟩
  have Al := Eh hN1
  have hc0 : 0 < N1 := by omega
  clear hy hg hrb him hN1
  go_upto_region 12 with (go_at_call 151; refine Bp.out.mono ?_; rintro e5 w5 ⟨rfl, hk5⟩; have uZ := Eh (vh.out.kept hk5); clear hk5 Bp vh x0 x1 x2 t0 tf k0 k1 k2)
  obtain ⟨t0, tf⟩ := aK (uZ.out.blk 0 rfl)
  have HL := Eh (az (ak (uZ.out.blk 1 rfl)))
  have Dk := Eh (CF.out w5 uZ.out)
  go_upto_region 13 with (first | (refine ai rfl _ _ rfl _ _ rfl _ HL.out ?_) | (go_at_call 152; refine Dk.out.mono ?_; rintro e6 w6 ⟨rfl, hk6⟩; have vi := Eh (uZ.out.kept hk6); clear hk6 Dk CF uZ HL t0 tf))
  obtain ⟨t0, tf⟩ := aK (vi.out.blk 0 rfl)
  obtain ⟨x0, x1, x2⟩ := gM (vi.out.blk 1 rfl)
  obtain ⟨k0, k1, k2⟩ := gD (vi.out.blk 1 rfl)
  have hy := HY.out _ _ vi.out
  rw [Al.out] at t0
  have h4 : x.mode = 3 ∨ x.mode = 5 ∨ x.mode = 6 ∨ ¬ (x.mode = 3 ∨ x.mode = 5 ∨ x.mode = 6) := by omega
  rcases h4 with h | h | h | h
  ·skip
   have HV := Eh (xU.out (.inl h))
   rw [h] at x2
   clear h xU vT
   cases rb
   ·have HO := Eh (show bH ts x.c = false by rw [HV.out]; rfl)
    refine ag [(0, false, 999), (1, false, 999), (2, false, 999), (3, false, 999), (4, false, 999), (5, false, 999), (6, false, 999), (7, false, 999), (8, false, 999), (9, false, 999), (10, false, 999), (11, false, 999), (12, false, 999), (13, false, 999), (14, false, 999), (15, false, 999), (16, false, 999), (17, false, 999), (18, false, 999), (19, false, 999), (20, false, 999), (21, false, 999), (22, false, 999), (23, false, 999), (24, false, 999), (25, false, 999), (26, false, 999), (27, false, 999), (28, false, 999), (29, false, 999)] (by kernel_rfl) (by kernel_rfl) ?_
    iterate 4 (refine af rfl rfl (fun K hK => ?_); go_simp; refine hK _ ?_; clear hK K)
    iterate 3 (first | (refine aq rfl rfl ?_; simp only [Act.put, Ei, Ej, Ek, El, Em, En]) | (refine am rfl rfl (fun K hK => ?_); go_simp; refine hK _ ?_; clear hK K))
    iterate 2 (refine af rfl rfl (fun K hK => ?_); go_simp; refine hK _ ?_; clear hK K)
    iterate 3 (first | (refine aq rfl rfl ?_; simp only [Act.put, Ei, Ej, Ek, El, Em, En]) | (refine am rfl rfl (fun K hK => ?_); go_simp; refine hK _ ?_; clear hK K))
    iterate 2 (refine af rfl rfl (fun K hK => ?_); go_simp; refine hK _ ?_; clear hK K)
    first | (refine aq rfl rfl ?_; simp only [Act.put, Ei, Ej, Ek, El, Em, En]) | (refine am rfl rfl (fun K hK => ?_); go_simp; refine hK _ ?_; clear hK K)
    iterate 2 (refine af rfl rfl (fun K hK => ?_); go_simp; refine hK _ ?_; clear hK K)
    iterate 8 (first | (refine aq rfl rfl ?_; simp only [Act.put, Ei, Ej, Ek, El, Em, En]) | (refine am rfl rfl (fun K hK => ?_); go_simp; refine hK _ ?_; clear hK K))
    iterate 2 (refine af rfl rfl (fun K hK => ?_); go_simp; refine hK _ ?_; clear hK K)
    first | (refine aq rfl rfl ?_; simp only [Act.put, Ei, Ej, Ek, El, Em, En]) | (refine am rfl rfl (fun K hK => ?_); go_simp; refine hK _ ?_; clear hK K)
    iterate 2 (refine af rfl rfl (fun K hK => ?_); go_simp; refine hK _ ?_; clear hK K)
    refine ar ?_
    go_wp2_with fail
    go_ret
    exact ⟨by rw [vA.out, HO.out]; rfl, vi.out.drew.drop.drop⟩
   ·by_cases hty : x.key.t = y
    ·have HO := Eh (show bH ts x.c = im by rw [HV.out, decide_eq_true hty]; rfl)
     subst hty
     refine ag [(0, false, 999), (1, false, 999), (2, false, 999), (3, false, 999), (4, false, 999), (5, false, 999), (6, false, 999), (7, false, 999), (8, false, 999), (9, false, 999), (10, false, 999), (11, false, 999), (12, false, 999), (13, false, 999), (14, false, 999), (15, false, 999), (16, false, 999), (17, false, 999), (18, false, 999), (19, false, 999), (20, false, 999), (21, false, 999), (22, false, 999), (23, false, 999), (24, false, 999), (25, false, 999), (26, false, 999), (27, false, 999), (28, false, 999), (29, false, 999)] (by kernel_rfl) (by kernel_rfl) ?_
     iterate 4 (refine af rfl rfl (fun K hK => ?_); go_simp; refine hK _ ?_; clear hK K)
     iterate 3 (first | (refine aq rfl rfl ?_; simp only [Act.put, Ei, Ej, Ek, El, Em, En]) | (refine am rfl rfl (fun K hK => ?_); go_simp; refine hK _ ?_; clear hK K))
     iterate 2 (refine af rfl rfl (fun K hK => ?_); go_simp; refine hK _ ?_; clear hK K)
     iterate 3 (first | (refine aq rfl rfl ?_; simp only [Act.put, Ei, Ej, Ek, El, Em, En]) | (refine am rfl rfl (fun K hK => ?_); go_simp; refine hK _ ?_; clear hK K))
     iterate 2 (refine af rfl rfl (fun K hK => ?_); go_simp; refine hK _ ?_; clear hK K)
     first | (refine aq rfl rfl ?_; simp only [Act.put, Ei, Ej, Ek, El, Em, En]) | (refine am rfl rfl (fun K hK => ?_); go_simp; refine hK _ ?_; clear hK K)
     iterate 2 (refine af rfl rfl (fun K hK => ?_); go_simp; refine hK _ ?_; clear hK K)
     iterate 8 (first | (refine aq rfl rfl ?_; simp only [Act.put, Ei, Ej, Ek, El, Em, En]) | (refine am rfl rfl (fun K hK => ?_); go_simp; refine hK _ ?_; clear hK K))
     iterate 2 (refine af rfl rfl (fun K hK => ?_); go_simp; refine hK _ ?_; clear hK K)
     first | (refine aq rfl rfl ?_; simp only [Act.put, Ei, Ej, Ek, El, Em, En]) | (refine am rfl rfl (fun K hK => ?_); go_simp; refine hK _ ?_; clear hK K)
     iterate 2 (refine af rfl rfl (fun K hK => ?_); go_simp; refine hK _ ?_; clear hK K)
     refine ar ?_
     go_wp2_with fail
     go_ret
     exact ⟨by rw [vA.out, HO.out]; rfl, vi.out.drew.drop.drop⟩
    ·have HO := Eh (show bH ts x.c = false by rw [HV.out, decide_eq_false hty]; rfl)
     obtain rfl : y = !x.key.t := by cases y <;> cases h : x.key.t <;> simp_all
     clear hty
     refine ag [(0, false, 999), (1, false, 999), (2, false, 999), (3, false, 999), (4, false, 999), (5, false, 999), (6, false, 999), (7, false, 999), (8, false, 999), (9, false, 999), (10, false, 999), (11, false, 999), (12, false, 999), (13, false, 999), (14, false, 999), (15, false, 999), (16, false, 999), (17, false, 999), (18, false, 999), (19, false, 999), (20, false, 999), (21, false, 999), (22, false, 999), (23, false, 999), (24, false, 999), (25, false, 999), (26, false, 999), (27, false, 999), (28, false, 999), (29, false, 999)] (by kernel_rfl) (by kernel_rfl) ?_
     iterate 4 (refine af rfl rfl (fun K hK => ?_); go_simp; refine hK _ ?_; clear hK K)
     iterate 3 (first | (refine aq rfl rfl ?_; simp only [Act.put, Ei, Ej, Ek, El, Em, En]) | (refine am rfl rfl (fun K hK => ?_); go_simp; refine hK _ ?_; clear hK K))
     iterate 2 (refine af rfl rfl (fun K hK => ?_); go_simp; refine hK _ ?_; clear hK K)
     iterate 3 (first | (refine aq rfl rfl ?_; simp only [Act.put, Ei, Ej, Ek, El, Em, En]) | (refine am rfl rfl (fun K hK => ?_); go_simp; refine hK _ ?_; clear hK K))
     iterate 2 (refine af rfl rfl (fun K hK => ?_); go_simp; refine hK _ ?_; clear hK K)
     first | (refine aq rfl rfl ?_; simp only [Act.put, Ei, Ej, Ek, El, Em, En]) | (refine am rfl rfl (fun K hK => ?_); go_simp; refine hK _ ?_; clear hK K)
     iterate 2 (refine af rfl rfl (fun K hK => ?_); go_simp; refine hK _ ?_; clear hK K)
     iterate 8 (first | (refine aq rfl rfl ?_; simp only [Act.put, Ei, Ej, Ek, El, Em, En]) | (refine am rfl rfl (fun K hK => ?_); go_simp; refine hK _ ?_; clear hK K))
     iterate 2 (refine af rfl rfl (fun K hK => ?_); go_simp; refine hK _ ?_; clear hK K)
     first | (refine aq rfl rfl ?_; simp only [Act.put, Ei, Ej, Ek, El, Em, En]) | (refine am rfl rfl (fun K hK => ?_); go_simp; refine hK _ ?_; clear hK K)
     iterate 2 (refine af rfl rfl (fun K hK => ?_); go_simp; refine hK _ ?_; clear hK K)
     refine ar ?_
     go_wp2_with fail
     go_ret
     exact ⟨by rw [vA.out, HO.out]; rfl, vi.out.drew.drop.drop⟩
  ·skip
   have HV := Eh (xU.out (.inr (.inl h)))
   rw [h] at x2
   clear h xU vT
   cases rb
   ·have HO := Eh (show bH ts x.c = false by rw [HV.out]; rfl)
    refine ag [(0, false, 999), (1, false, 999), (2, false, 999), (3, false, 999), (4, false, 999), (5, false, 999), (6, false, 999), (7, false, 999), (8, false, 999), (9, false, 999), (10, false, 999), (11, false, 999), (12, false, 999), (13, false, 999), (14, false, 999), (15, false, 999), (16, false, 999), (17, false, 999), (18, false, 999), (19, false, 999), (20, false, 999), (21, false, 999), (22, false, 999), (23, false, 999), (24, false, 999), (25, false, 999), (26, false, 999), (27, false, 999), (28, false, 999), (29, false, 999)] (by kernel_rfl) (by kernel_rfl) ?_
    iterate 4 (refine af rfl rfl (fun K hK => ?_); go_simp; refine hK _ ?_; clear hK K)
    iterate 3 (first | (refine aq rfl rfl ?_; simp only [Act.put, Ei, Ej, Ek, El, Em, En]) | (refine am rfl rfl (fun K hK => ?_); go_simp; refine hK _ ?_; clear hK K))
    iterate 2 (refine af rfl rfl (fun K hK => ?_); go_simp; refine hK _ ?_; clear hK K)
    iterate 3 (first | (refine aq rfl rfl ?_; simp only [Act.put, Ei, Ej, Ek, El, Em, En]) | (refine am rfl rfl (fun K hK => ?_); go_simp; refine hK _ ?_; clear hK K))
    iterate 2 (refine af rfl rfl (fun K hK => ?_); go_simp; refine hK _ ?_; clear hK K)
    first | (refine aq rfl rfl ?_; simp only [Act.put, Ei, Ej, Ek, El, Em, En]) | (refine am rfl rfl (fun K hK => ?_); go_simp; refine hK _ ?_; clear hK K)
    iterate 2 (refine af rfl rfl (fun K hK => ?_); go_simp; refine hK _ ?_; clear hK K)
    iterate 8 (first | (refine aq rfl rfl ?_; simp only [Act.put, Ei, Ej, Ek, El, Em, En]) | (refine am rfl rfl (fun K hK => ?_); go_simp; refine hK _ ?_; clear hK K))
    iterate 2 (refine af rfl rfl (fun K hK => ?_); go_simp; refine hK _ ?_; clear hK K)
    first | (refine aq rfl rfl ?_; simp only [Act.put, Ei, Ej, Ek, El, Em, En]) | (refine am rfl rfl (fun K hK => ?_); go_simp; refine hK _ ?_; clear hK K)
    iterate 2 (refine af rfl rfl (fun K hK => ?_); go_simp; refine hK _ ?_; clear hK K)
    refine ar ?_
    go_wp2_with fail
    go_ret
    exact ⟨by rw [vA.out, HO.out]; rfl, vi.out.drew.drop.drop⟩
   ·by_cases hty : x.key.t = y
    ·have HO := Eh (show bH ts x.c = im by rw [HV.out, decide_eq_true hty]; rfl)
     subst hty
     refine ag [(0, false, 999), (1, false, 999), (2, false, 999), (3, false, 999), (4, false, 999), (5, false, 999), (6, false, 999), (7, false, 999), (8, false, 999), (9, false, 999), (10, false, 999), (11, false, 999), (12, false, 999), (13, false, 999), (14, false, 999), (15, false, 999), (16, false, 999), (17, false, 999), (18, false, 999), (19, false, 999), (20, false, 999), (21, false, 999), (22, false, 999), (23, false, 999), (24, false, 999), (25, false, 999), (26, false, 999), (27, false, 999), (28, false, 999), (29, false, 999)] (by kernel_rfl) (by kernel_rfl) ?_
     iterate 4 (refine af rfl rfl (fun K hK => ?_); go_simp; refine hK _ ?_; clear hK K)
     iterate 3 (first | (refine aq rfl rfl ?_; simp only [Act.put, Ei, Ej, Ek, El, Em, En]) | (refine am rfl rfl (fun K hK => ?_); go_simp; refine hK _ ?_; clear hK K))
     iterate 2 (refine af rfl rfl (fun K hK => ?_); go_simp; refine hK _ ?_; clear hK K)
     iterate 3 (first | (refine aq rfl rfl ?_; simp only [Act.put, Ei, Ej, Ek, El, Em, En]) | (refine am rfl rfl (fun K hK => ?_); go_simp; refine hK _ ?_; clear hK K))
     iterate 2 (refine af rfl rfl (fun K hK => ?_); go_simp; refine hK _ ?_; clear hK K)
     first | (refine aq rfl rfl ?_; simp only [Act.put, Ei, Ej, Ek, El, Em, En]) | (refine am rfl rfl (fun K hK => ?_); go_simp; refine hK _ ?_; clear hK K)
     iterate 2 (refine af rfl rfl (fun K hK => ?_); go_simp; refine hK _ ?_; clear hK K)
     iterate 8 (first | (refine aq rfl rfl ?_; simp only [Act.put, Ei, Ej, Ek, El, Em, En]) | (refine am rfl rfl (fun K hK => ?_); go_simp; refine hK _ ?_; clear hK K))
     iterate 2 (refine af rfl rfl (fun K hK => ?_); go_simp; refine hK _ ?_; clear hK K)
     first | (refine aq rfl rfl ?_; simp only [Act.put, Ei, Ej, Ek, El, Em, En]) | (refine am rfl rfl (fun K hK => ?_); go_simp; refine hK _ ?_; clear hK K)
     iterate 2 (refine af rfl rfl (fun K hK => ?_); go_simp; refine hK _ ?_; clear hK K)
     refine ar ?_
     go_wp2_with fail
     go_ret
     exact ⟨by rw [vA.out, HO.out]; rfl, vi.out.drew.drop.drop⟩
    ·have HO := Eh (show bH ts x.c = false by rw [HV.out, decide_eq_false hty]; rfl)
     obtain rfl : y = !x.key.t := by cases y <;> cases h : x.key.t <;> simp_all
     clear hty
     refine ag [(0, false, 999), (1, false, 999), (2, false, 999), (3, false, 999), (4, false, 999), (5, false, 999), (6, false, 999), (7, false, 999), (8, false, 999), (9, false, 999), (10, false, 999), (11, false, 999), (12, false, 999), (13, false, 999), (14, false, 999), (15, false, 999), (16, false, 999), (17, false, 999), (18, false, 999), (19, false, 999), (20, false, 999), (21, false, 999), (22, false, 999), (23, false, 999), (24, false, 999), (25, false, 999), (26, false, 999), (27, false, 999), (28, false, 999), (29, false, 999)] (by kernel_rfl) (by kernel_rfl) ?_
     iterate 4 (refine af rfl rfl (fun K hK => ?_); go_simp; refine hK _ ?_; clear hK K)
     iterate 3 (first | (refine aq rfl rfl ?_; simp only [Act.put, Ei, Ej, Ek, El, Em, En]) | (refine am rfl rfl (fun K hK => ?_); go_simp; refine hK _ ?_; clear hK K))
     iterate 2 (refine af rfl rfl (fun K hK => ?_); go_simp; refine hK _ ?_; clear hK K)
     iterate 3 (first | (refine aq rfl rfl ?_; simp only [Act.put, Ei, Ej, Ek, El, Em, En]) | (refine am rfl rfl (fun K hK => ?_); go_simp; refine hK _ ?_; clear hK K))
     iterate 2 (refine af rfl rfl (fun K hK => ?_); go_simp; refine hK _ ?_; clear hK K)
     first | (refine aq rfl rfl ?_; simp only [Act.put, Ei, Ej, Ek, El, Em, En]) | (refine am rfl rfl (fun K hK => ?_); go_simp; refine hK _ ?_; clear hK K)
     iterate 2 (refine af rfl rfl (fun K hK => ?_); go_simp; refine hK _ ?_; clear hK K)
     iterate 8 (first | (refine aq rfl rfl ?_; simp only [Act.put, Ei, Ej, Ek, El, Em, En]) | (refine am rfl rfl (fun K hK => ?_); go_simp; refine hK _ ?_; clear hK K))
     iterate 2 (refine af rfl rfl (fun K hK => ?_); go_simp; refine hK _ ?_; clear hK K)
     first | (refine aq rfl rfl ?_; simp only [Act.put, Ei, Ej, Ek, El, Em, En]) | (refine am rfl rfl (fun K hK => ?_); go_simp; refine hK _ ?_; clear hK K)
     iterate 2 (refine af rfl rfl (fun K hK => ?_); go_simp; refine hK _ ?_; clear hK K)
     refine ar ?_
     go_wp2_with fail
     go_ret
     exact ⟨by rw [vA.out, HO.out]; rfl, vi.out.drew.drop.drop⟩
  ·skip
   have HV := Eh (xU.out (.inr (.inr h)))
   rw [h] at x2
   clear h xU vT
   cases rb
   ·have HO := Eh (show bH ts x.c = false by rw [HV.out]; rfl)
    refine ag [(0, false, 999), (1, false, 999), (2, false, 999), (3, false, 999), (4, false, 999), (5, false, 999), (6, false, 999), (7, false, 999), (8, false, 999), (9, false, 999), (10, false, 999), (11, false, 999), (12, false, 999), (13, false, 999), (14, false, 999), (15, false, 999), (16, false, 999), (17, false, 999), (18, false, 999), (19, false, 999), (20, false, 999), (21, false, 999), (22, false, 999), (23, false, 999), (24, false, 999), (25, false, 999), (26, false, 999), (27, false, 999), (28, false, 999), (29, false, 999)] (by kernel_rfl) (by kernel_rfl) ?_
    iterate 4 (refine af rfl rfl (fun K hK => ?_); go_simp; refine hK _ ?_; clear hK K)
    iterate 3 (first | (refine aq rfl rfl ?_; simp only [Act.put, Ei, Ej, Ek, El, Em, En]) | (refine am rfl rfl (fun K hK => ?_); go_simp; refine hK _ ?_; clear hK K))
    iterate 2 (refine af rfl rfl (fun K hK => ?_); go_simp; refine hK _ ?_; clear hK K)
    iterate 3 (first | (refine aq rfl rfl ?_; simp only [Act.put, Ei, Ej, Ek, El, Em, En]) | (refine am rfl rfl (fun K hK => ?_); go_simp; refine hK _ ?_; clear hK K))
    iterate 2 (refine af rfl rfl (fun K hK => ?_); go_simp; refine hK _ ?_; clear hK K)
    first | (refine aq rfl rfl ?_; simp only [Act.put, Ei, Ej, Ek, El, Em, En]) | (refine am rfl rfl (fun K hK => ?_); go_simp; refine hK _ ?_; clear hK K)
    iterate 2 (refine af rfl rfl (fun K hK => ?_); go_simp; refine hK _ ?_; clear hK K)
    iterate 8 (first | (refine aq rfl rfl ?_; simp only [Act.put, Ei, Ej, Ek, El, Em, En]) | (refine am rfl rfl (fun K hK => ?_); go_simp; refine hK _ ?_; clear hK K))
    iterate 2 (refine af rfl rfl (fun K hK => ?_); go_simp; refine hK _ ?_; clear hK K)
    first | (refine aq rfl rfl ?_; simp only [Act.put, Ei, Ej, Ek, El, Em, En]) | (refine am rfl rfl (fun K hK => ?_); go_simp; refine hK _ ?_; clear hK K)
    iterate 2 (refine af rfl rfl (fun K hK => ?_); go_simp; refine hK _ ?_; clear hK K)
    refine ar ?_
    go_wp2_with fail
    go_ret
    exact ⟨by rw [vA.out, HO.out]; rfl, vi.out.drew.drop.drop⟩
   ·by_cases hty : x.key.t = y
    ·have HO := Eh (show bH ts x.c = im by rw [HV.out, decide_eq_true hty]; rfl)
     subst hty
     refine ag [(0, false, 999), (1, false, 999), (2, false, 999), (3, false, 999), (4, false, 999), (5, false, 999), (6, false, 999), (7, false, 999), (8, false, 999), (9, false, 999), (10, false, 999), (11, false, 999), (12, false, 999), (13, false, 999), (14, false, 999), (15, false, 999), (16, false, 999), (17, false, 999), (18, false, 999), (19, false, 999), (20, false, 999), (21, false, 999), (22, false, 999), (23, false, 999), (24, false, 999), (25, false, 999), (26, false, 999), (27, false, 999), (28, false, 999), (29, false, 999)] (by kernel_rfl) (by kernel_rfl) ?_
     iterate 4 (refine af rfl rfl (fun K hK => ?_); go_simp; refine hK _ ?_; clear hK K)
     iterate 3 (first | (refine aq rfl rfl ?_; simp only [Act.put, Ei, Ej, Ek, El, Em, En]) | (refine am rfl rfl (fun K hK => ?_); go_simp; refine hK _ ?_; clear hK K))
     iterate 2 (refine af rfl rfl (fun K hK => ?_); go_simp; refine hK _ ?_; clear hK K)
     iterate 3 (first | (refine aq rfl rfl ?_; simp only [Act.put, Ei, Ej, Ek, El, Em, En]) | (refine am rfl rfl (fun K hK => ?_); go_simp; refine hK _ ?_; clear hK K))
     iterate 2 (refine af rfl rfl (fun K hK => ?_); go_simp; refine hK _ ?_; clear hK K)
     first | (refine aq rfl rfl ?_; simp only [Act.put, Ei, Ej, Ek, El, Em, En]) | (refine am rfl rfl (fun K hK => ?_); go_simp; refine hK _ ?_; clear hK K)
     iterate 2 (refine af rfl rfl (fun K hK => ?_); go_simp; refine hK _ ?_; clear hK K)
     iterate 8 (first | (refine aq rfl rfl ?_; simp only [Act.put, Ei, Ej, Ek, El, Em, En]) | (refine am rfl rfl (fun K hK => ?_); go_simp; refine hK _ ?_; clear hK K))
     iterate 2 (refine af rfl rfl (fun K hK => ?_); go_simp; refine hK _ ?_; clear hK K)
     first | (refine aq rfl rfl ?_; simp only [Act.put, Ei, Ej, Ek, El, Em, En]) | (refine am rfl rfl (fun K hK => ?_); go_simp; refine hK _ ?_; clear hK K)
     iterate 2 (refine af rfl rfl (fun K hK => ?_); go_simp; refine hK _ ?_; clear hK K)
     refine ar ?_
     go_wp2_with fail
     go_ret
     exact ⟨by rw [vA.out, HO.out]; rfl, vi.out.drew.drop.drop⟩
    ·have HO := Eh (show bH ts x.c = false by rw [HV.out, decide_eq_false hty]; rfl)
     obtain rfl : y = !x.key.t := by cases y <;> cases h : x.key.t <;> simp_all
     clear hty
     refine ag [(0, false, 999), (1, false, 999), (2, false, 999), (3, false, 999), (4, false, 999), (5, false, 999), (6, false, 999), (7, false, 999), (8, false, 999), (9, false, 999), (10, false, 999), (11, false, 999), (12, false, 999), (13, false, 999), (14, false, 999), (15, false, 999), (16, false, 999), (17, false, 999), (18, false, 999), (19, false, 999), (20, false, 999), (21, false, 999), (22, false, 999), (23, false, 999), (24, false, 999), (25, false, 999), (26, false, 999), (27, false, 999), (28, false, 999), (29, false, 999)] (by kernel_rfl) (by kernel_rfl) ?_
     iterate 4 (refine af rfl rfl (fun K hK => ?_); go_simp; refine hK _ ?_; clear hK K)
     iterate 3 (first | (refine aq rfl rfl ?_; simp only [Act.put, Ei, Ej, Ek, El, Em, En]) | (refine am rfl rfl (fun K hK => ?_); go_simp; refine hK _ ?_; clear hK K))
     iterate 2 (refine af rfl rfl (fun K hK => ?_); go_simp; refine hK _ ?_; clear hK K)
     iterate 3 (first | (refine aq rfl rfl ?_; simp only [Act.put, Ei, Ej, Ek, El, Em, En]) | (refine am rfl rfl (fun K hK => ?_); go_simp; refine hK _ ?_; clear hK K))
     iterate 2 (refine af rfl rfl (fun K hK => ?_); go_simp; refine hK _ ?_; clear hK K)
     first | (refine aq rfl rfl ?_; simp only [Act.put, Ei, Ej, Ek, El, Em, En]) | (refine am rfl rfl (fun K hK => ?_); go_simp; refine hK _ ?_; clear hK K)
     iterate 2 (refine af rfl rfl (fun K hK => ?_); go_simp; refine hK _ ?_; clear hK K)
     iterate 8 (first | (refine aq rfl rfl ?_; simp only [Act.put, Ei, Ej, Ek, El, Em, En]) | (refine am rfl rfl (fun K hK => ?_); go_simp; refine hK _ ?_; clear hK K))
     iterate 2 (refine af rfl rfl (fun K hK => ?_); go_simp; refine hK _ ?_; clear hK K)
     first | (refine aq rfl rfl ?_; simp only [Act.put, Ei, Ej, Ek, El, Em, En]) | (refine am rfl rfl (fun K hK => ?_); go_simp; refine hK _ ?_; clear hK K)
     iterate 2 (refine af rfl rfl (fun K hK => ?_); go_simp; refine hK _ ?_; clear hK K)
     refine ar ?_
     go_wp2_with fail
     go_ret
     exact ⟨by rw [vA.out, HO.out]; rfl, vi.out.drew.drop.drop⟩
  ·have HO := Eh (vT.out h)
   have e3 : (x.mode == 3) = false := by simp; omega
   have e5 : (x.mode == 5) = false := by simp; omega
   have e6 : (x.mode == 6) = false := by simp; omega
   clear h xU vT
   refine ag [(0, false, 999), (1, false, 999), (2, false, 999), (3, false, 999), (4, false, 999), (5, false, 999), (6, false, 999), (7, false, 999), (8, false, 999), (9, false, 999), (10, false, 999), (11, false, 999), (12, false, 999), (13, false, 999), (14, false, 999), (15, false, 999), (16, false, 999), (17, false, 999), (18, false, 999), (19, false, 999), (20, false, 999), (21, false, 999), (22, false, 999), (23, false, 999), (24, false, 999), (25, false, 999), (26, false, 999), (27, false, 999), (28, false, 999), (29, false, 999)] (by kernel_rfl) (by kernel_rfl) ?_
   iterate 4 (refine af rfl rfl (fun K hK => ?_); go_simp; refine hK _ ?_; clear hK K)
   iterate 3 (first | (refine aq rfl rfl ?_; simp only [Act.put, Ei, Ej, Ek, El, Em, En]) | (refine am rfl rfl (fun K hK => ?_); go_simp; refine hK _ ?_; clear hK K))
   iterate 2 (refine af rfl rfl (fun K hK => ?_); go_simp; refine hK _ ?_; clear hK K)
   iterate 3 (first | (refine aq rfl rfl ?_; simp only [Act.put, Ei, Ej, Ek, El, Em, En]) | (refine am rfl rfl (fun K hK => ?_); go_simp; refine hK _ ?_; clear hK K))
   iterate 2 (refine af rfl rfl (fun K hK => ?_); go_simp; refine hK _ ?_; clear hK K)
   first | (refine aq rfl rfl ?_; simp only [Act.put, Ei, Ej, Ek, El, Em, En]) | (refine am rfl rfl (fun K hK => ?_); go_simp; refine hK _ ?_; clear hK K)
   iterate 2 (refine af rfl rfl (fun K hK => ?_); go_simp; refine hK _ ?_; clear hK K)
   iterate 8 (first | (refine aq rfl rfl ?_; simp only [Act.put, Ei, Ej, Ek, El, Em, En]) | (refine am rfl rfl (fun K hK => ?_); go_simp; refine hK _ ?_; clear hK K))
   iterate 2 (refine af rfl rfl (fun K hK => ?_); go_simp; refine hK _ ?_; clear hK K)
   first | (refine aq rfl rfl ?_; simp only [Act.put, Ei, Ej, Ek, El, Em, En]) | (refine am rfl rfl (fun K hK => ?_); go_simp; refine hK _ ?_; clear hK K)
   iterate 2 (refine af rfl rfl (fun K hK => ?_); go_simp; refine hK _ ?_; clear hK K)
   refine ar ?_
   go_wp2_with fail
   go_ret
   exact ⟨by rw [vA.out, HO.out]; rfl, vi.out.drew.drop.drop⟩
 ·rw [h] at x0
  have xS := Eh (show dS c x.c = (decide (x.mode = 3) && cK c x.pr.p) by unfold dS; rw [if_neg (show ¬ x.c.kind = 1 by show ¬ x.kind = 1; omega), if_neg (show ¬ x.c.kind = 2 by show ¬ x.kind = 2; omega), if_pos (show x.c.kind = 3 from h)]; rfl)
  clear h
  have z7 := Eh (uu x.pr (zF.out.rd vh.out) HM.out (HX.out.rd vh.out).2 Bj.out)
  have yj := Eh (bD (eX (vh.out.blk 1 rfl)))
  obtain ⟨pm, hpm⟩ : ∃ pm, cK c x.pr.p = pm := ⟨_, rfl⟩
  rw [hpm] at z7 xS
  clear hpm
  go_upto_region 16 with (first | (refine bW rfl _ _ rfl _ _ rfl _ yj.out ?_) | (go_at_call 153; refine z7.out.mono ?_; rintro e5 w5 ⟨rfl, hk5⟩; have uZ := Eh (vh.out.kept hk5); clear hk5 z7 vh yj x0 x1 x2 t0 tf))
  obtain ⟨x0, x1, x2⟩ := gM (uZ.out.blk 1 rfl)
  by_cases hz : x.mode = 3
  ·have HO := Eh (show bH ts x.c = pm by rw [yn.out, xS.out, decide_eq_true hz]; rfl)
   rw [hz] at x2
   clear hz
   go_wp2_with fail
   go_ret
   exact ⟨by rw [vA.out, HO.out]; rfl, uZ.out.drop.drop⟩
  ·have HO := Eh (show bH ts x.c = false by rw [yn.out, xS.out, decide_eq_false hz]; rfl)
   have hz1 : (x.mode == 3) = false := by simpa using hz
   clear hz
   go_wp2_with fail
   go_ret
   exact ⟨by rw [vA.out, HO.out]; rfl, uZ.out.drop.drop⟩
 ·have HO := Eh (show bH ts x.c = false by rw [yn.out]; unfold dS; rw [if_neg (show ¬ x.c.kind = 1 from n1), if_neg (show ¬ x.c.kind = 2 from n2), if_neg (show ¬ x.c.kind = 3 from n3)])
  go_wp2_with fail
  go_ret
  exact ⟨by rw [vA.out, HO.out]; rfl, vh.out.drop.drop⟩
end Go.Proofs.YtgljdkjepdknnaaGreatDoor
