/- The document's part, May of predicates (ratlineref03). (printed by genrm3.py) -/
import Derived.Test.YtgljdkjepdknnaaGreatDoorML37
set_option maxHeartbeats 64000000
namespace Go.Proofs.YtgljdkjepdknnaaGreatDoor
open Go.ChangeShapes Go.WideShapes Go.ChangeAt Go.RowKit
set_option maxRecDepth 100000
set_option linter.unusedSimpArgs false
theorem uv {cv : Value} {c : List Bool} : ∀ (p : PredT) (x : PredE) (w : World), x.p = p → du w cv c → PredsRd w (.slice x.la x.ln x.lc) x.subs →
  Calls Tryz.prog 175 #[.agg #[cv], .agg x.cells.toArray] w fun e w' => e = .returned (.bool (p.nodes.all (aA c))) ∧ Kept (fun _ => False) w w' := by
 refine PredT.ind fun op col v w0 pl ih x w hx hc hat => ?_
 have hl : x.subs = pl := by unfold PredE.p at hx; cases hx; rfl
 obtain ⟨W1, hW1, hk1, hb1, hb2⟩ := iO w #[cv] x.cells.toArray dO tPr
 have hat1 := hat.kept hk1
 have hc1 := Rd.kept hc hk1 (fun _ _ h => h)
 obtain ⟨es, hrd, hsub, hes⟩ : ∃ es : List PredE, Rd W1 9 (.slice x.la x.ln x.lc) es.length (es.flatMap PredE.cells) ∧ x.subs = es.map PredE.p ∧ ∀ e ∈ es, PredsRd W1 (.slice e.la e.ln e.lc) e.subs := by
  generalize x.subs = xs at hat1
  cases hat1 with
  | mk _ es he hes => exact ⟨es, he, rfl, hes⟩
 obtain ⟨_, _, ca, cc, rfl, _⟩ := id hc
 have xE := Eh (show (PredT.mk op col v w0 pl).nodes.all (aA c) = (aA c (.mk op col v w0 pl) && es.all (fun e => e.p.nodes.all (aA c))) by rw [ij, ← hl, hsub, List.all_cons, List.flatMap_map, List.all_flatMap])
 obtain ⟨_, _, ra, rc, hav, _⟩ := id hrd
 have hln : x.ln = es.length := (Value.slice.inj hav).2.1
 have hml := hrd.2.1
 unfold maxLen at hml
 obtain ⟨N, hN⟩ : ∃ N, es.length = N := ⟨_, rfl⟩
 rw [hln, hN] at hrd
 rw [hN] at hml
 have yB := Eh (show ∀ (j : Nat) (e : PredE) (W : World), es[j]? = some e → Kept (fun _ => False) W1 W → Calls Tryz.prog 175 #[.agg #[.slice ca c.length cc], .agg e.cells.toArray] W fun r w' => r = .returned (.bool (e.p.nodes.all (aA c))) ∧ Kept (fun _ => False) W w' from
  fun j e W he k => ih e.p (by rw [← hl, hsub]; exact List.mem_map_of_mem (List.mem_of_getElem? he)) e W rfl (Rd.kept hc1 k (fun _ _ h => h)) ((hes e (List.mem_of_getElem? he)).kept k))
 have vk := Eh hrd
 have HN := Eh hN
 have xn := Eh (show pl.length = N by rw [← hl, hsub, List.length_map, hN])
 have vK := Eh (show x.ln = N by rw [hln, hN])
 have yA := Eh (show x.op = op ∧ x.col = col ∧ x.v = v ∧ x.w = w0 by unfold PredE.p at hx; cases hx; exact ⟨rfl, rfl, rfl, rfl⟩)
 have wm := Eh hc1
 have uW := Eh hW1
 have vd := Eh hk1
 have vj := Eh hb1
 have vm := Eh hb2
 obtain ⟨rr, hrr⟩ : ∃ rr, rr = (PredT.mk op col v w0 pl).nodes.all (aA c) := ⟨_, rfl⟩
 rw [← hrr]
 have vA := Eh hrr
 clear ih hx hat hat1 hl hsub hes hrd hav hln hN hW1 hk1 hb1 hb2 hrr hc hc1
 go_enter Tryz.func175, Tryz.ntmps175
 go_upto_region 1 with fail
 rw [← uW.out]
 clear uW
 generalize w.heap.size + 1 = b2 at *
 generalize w.heap.size = b1 at *
 obtain ⟨la, hla⟩ : ∃ la, la = x.la := ⟨_, rfl⟩
 obtain ⟨lc, hlc⟩ : ∃ lc, lc = x.lc := ⟨_, rfl⟩
 have HB := Eh (show ∀ W, Kept (fun _ => False) W1 W → W.cell? ⟨b2, 0, none⟩ = some (.int .i64 op) ∧ W.cell? ⟨b2, 1, none⟩ = some (.int .i64 col) ∧ W.cell? ⟨b2, 2, none⟩ = some (.bool v.t) ∧ W.cell? ⟨b2, 3, none⟩ = some (.int .i64 v.n) ∧ W.cell? ⟨b2, 4, none⟩ = some (.string v.s) ∧ W.cell? ⟨b2, 5, none⟩ = some (.bool w0.t) ∧ W.cell? ⟨b2, 6, none⟩ = some (.int .i64 w0.n) ∧ W.cell? ⟨b2, 7, none⟩ = some (.string w0.s) ∧ W.cell? ⟨b2, 8, none⟩ = some (.slice la N lc) ∧ W.cell? ⟨b1, 0, none⟩ = some (.slice ca c.length cc) from fun W k => by
  obtain ⟨h0, h1, h2, h3, h4, h5, h6, h7, h8⟩ := aM (aB k vm.out)
  rw [vK.out, ← hla, ← hlc] at h8
  rw [yA.out.1] at h0
  rw [yA.out.2.1] at h1
  rw [yA.out.2.2.1] at h2 h3 h4
  rw [yA.out.2.2.2] at h5 h6 h7
  exact ⟨h0, h1, h2, h3, h4, h5, h6, h7, h8, (aK (aB k vj.out)).1⟩)
 rw [← hla, ← hlc] at vk
 clear hla hlc yA vK vj vm
 go_wp2_with fail
 go_loopw [5] (fun i wr => ∃ j : Nat, i = .int .i64 j ∧ j ≤ N ∧ (es.take j).all (fun e => e.p.nodes.all (aA c)) = true ∧ Kept (fun _ => False) W1 wr) (fun i _ => N - (intOf i).toNat)
 case atStart => exact ⟨0, rfl, by omega, rfl, Kept.refl _ _⟩
 case round =>
  obtain ⟨j, rfl, hj, hyes, hk⟩ := hrel
  have HK := Eh hk
  have HY := Eh hyes
  obtain ⟨x0, x1, x2, x3, x4, x5, x6, x7, x8, t0⟩ := HB.out wr hk
  clear hk hyes
  by_cases hlt : j < N
  ·have hii : (j : Int) < (N : Int) := by omega
   obtain ⟨e, he⟩ : ∃ e, es[j]? = some e := ⟨es[j]'(by rw [HN.out]; exact hlt), List.getElem?_eq_getElem _⟩
   obtain ⟨g, og, rfl, hrng⟩ := aF PredE.len (Rd.kept vk.out HK.out.drew (fun _ _ h => h)) he HN.out
   have HL := Eh (bD (w := wr.drew) hrng)
   have HC := Eh (yB.out j e wr.drew he HK.out.drew)
   have xZ := Eh (show (es.take (j + 1)).all (fun e => e.p.nodes.all (aA c)) = e.p.nodes.all (aA c) by rw [List.take_add_one, he, List.all_append, HY.out]; simp)
   have yG := Eh (List.mem_of_getElem? he)
   clear he hrng
   go_upto_region 4 with fail
   cases hb : e.p.nodes.all (aA c)
   ·rw [hb] at HC
    have HF := Eh (show es.all (fun e => e.p.nodes.all (aA c)) = false from List.all_eq_false.2 ⟨e, yG.out, by rw [hb]; simp⟩)
    clear hb
    refine ag [(0, false, 6), (1, false, 6), (2, false, 6), (3, false, 6), (4, false, 6), (5, false, 6), (6, true, 0), (7, false, 999)] (by kernel_rfl) (by kernel_rfl) ?_
    iterate 6 (refine af rfl rfl (fun K hK => ?_); (first | ((refine aj _ _ rfl _ _ rfl _ HL.out ?_); go_simp) | go_simp); refine hK _ ?_; clear hK K)
    refine al rfl ?_
    refine aw rfl (fun K hK => ?_)
    go_simp
    refine HC.out.mono ?_
    rintro e4 w4 ⟨rfl, hk4⟩
    have wy := Eh (HK.out.drew.trans hk4 (fun _ h => h.elim))
    clear hk4 HC HL x0 x1 x2 x3 x4 x5 x6 x7 x8 t0
    refine hK _ _ ?_
    clear hK K
    refine wpList_nil ?_
    refine And.intro ?_ ?_
    ·go_simp
    refine af rfl rfl (fun K hK => ?_); (first | ((refine aj _ _ rfl _ _ rfl _ HL.out ?_); go_simp) | go_simp); refine hK _ ?_; clear hK K
    refine ar ?_
    go_wp2_with fail
    go_ret
    exact ⟨by rw [vA.out, xE.out, HF.out]; simp, vd.out.trans wy.out (fun _ h => h.elim)⟩
   ·rw [hb] at HC xZ
    clear hb
    refine ag [(0, false, 6), (1, false, 6), (2, false, 6), (3, false, 6), (4, false, 6), (5, false, 6), (6, true, 0), (7, false, 999)] (by kernel_rfl) (by kernel_rfl) ?_
    iterate 6 (refine af rfl rfl (fun K hK => ?_); (first | ((refine aj _ _ rfl _ _ rfl _ HL.out ?_); go_simp) | go_simp); refine hK _ ?_; clear hK K)
    refine al rfl ?_
    refine aw rfl (fun K hK => ?_)
    go_simp
    refine HC.out.mono ?_
    rintro e4 w4 ⟨rfl, hk4⟩
    have wy := Eh (HK.out.drew.trans hk4 (fun _ h => h.elim))
    clear hk4 HC HL x0 x1 x2 x3 x4 x5 x6 x7 x8 t0
    refine hK _ _ ?_
    clear hK K
    refine wpList_nil ?_
    refine And.intro ?_ ?_
    ·go_simp
    refine af rfl rfl (fun K hK => ?_); (first | ((refine aj _ _ rfl _ _ rfl _ HL.out ?_); go_simp) | go_simp); refine hK _ ?_; clear hK K
    refine ar ?_
    go_wp2_with fail
    go_roundw
    case rel => exact ⟨j + 1, by go_num, by omega, xZ.out, wy.out⟩
    case measure => simp [intOf]; omega
  ·have hii : ¬ ((j : Int) < (N : Int)) := by omega
   have vI := Eh (show rr = aA c (.mk op col v w0 pl) by rw [vA.out, xE.out, show es.all (fun e => e.p.nodes.all (aA c)) = true by have := HY.out; rwa [List.take_of_length_le (by rw [HN.out]; omega)] at this]; simp)
   have vW := Eh (vd.out.trans HK.out (fun _ h => h.elim))
   clear vA xE yB vk
   go_upto_region 7 with fail
   by_cases hop : 1 ≤ op ∧ op ≤ 12
   ·have h12 : op = 1 ∨ op = 2 ∨ op = 3 ∨ op = 4 ∨ op = 5 ∨ op = 6 ∨ op = 7 ∨ op = 8 ∨ op = 9 ∨ op = 10 ∨ op = 11 ∨ op = 12 := by omega
    clear hop
    rcases h12 with rfl | rfl | rfl | rfl | rfl | rfl | rfl | rfl | rfl | rfl | rfl | rfl
    ·skip
     by_cases h0 : N = 0
     ·have hp : pl = [] := List.length_eq_zero_iff.1 (by rw [xn.out]; exact h0)
      have hN1 : ((N : Int) == 0) = true := by simp [h0]
      have hN2 : ¬ (N : Int) > 0 := by omega
      have HO := Eh (show aA c (.mk 1 col v w0 pl) = true by unfold aA; simp only [PredT.op, PredT.col, PredT.v, PredT.w, PredT.l]; simp [hp])
      go_wp2_with fail
      go_ret
      exact ⟨by rw [vI.out, HO.out]; rfl, vW.out⟩
     ·have hp : pl.isEmpty = false := by cases hq : pl with | nil => exact absurd (by have := xn.out; rw [hq] at this; exact this.symm) h0 | cons _ _ => rfl
      have hN1 : ((N : Int) == 0) = false := by simp [h0]
      have hN2 : (N : Int) > 0 := by omega
      have HO := Eh (show aA c (.mk 1 col v w0 pl) = false by unfold aA; simp only [PredT.op, PredT.col, PredT.v, PredT.w, PredT.l]; simp [hp])
      go_wp2_with fail
      go_ret
      exact ⟨by rw [vI.out, HO.out]; rfl, vW.out⟩
    ·skip
     by_cases h0 : N = 0
     ·have hp : pl = [] := List.length_eq_zero_iff.1 (by rw [xn.out]; exact h0)
      have hN1 : ((N : Int) == 0) = true := by simp [h0]
      have hN2 : ¬ (N : Int) > 0 := by omega
      have HO := Eh (show aA c (.mk 2 col v w0 pl) = true by unfold aA; simp only [PredT.op, PredT.col, PredT.v, PredT.w, PredT.l]; simp [hp])
      go_wp2_with fail
      go_ret
      exact ⟨by rw [vI.out, HO.out]; rfl, vW.out⟩
     ·have hp : pl.isEmpty = false := by cases hq : pl with | nil => exact absurd (by have := xn.out; rw [hq] at this; exact this.symm) h0 | cons _ _ => rfl
      have hN1 : ((N : Int) == 0) = false := by simp [h0]
      have hN2 : (N : Int) > 0 := by omega
      have HO := Eh (show aA c (.mk 2 col v w0 pl) = false by unfold aA; simp only [PredT.op, PredT.col, PredT.v, PredT.w, PredT.l]; simp [hp])
      go_wp2_with fail
      go_ret
      exact ⟨by rw [vI.out, HO.out]; rfl, vW.out⟩
    ·skip
     by_cases h0 : N = 0
     ·have hp : pl = [] := List.length_eq_zero_iff.1 (by rw [xn.out]; exact h0)
      have hN1 : ((N : Int) == 0) = true := by simp [h0]
      have hN2 : ¬ (N : Int) > 0 := by omega
      have HO := Eh (show aA c (.mk 3 col v w0 pl) = bP c col v by unfold aA; simp only [PredT.op, PredT.col, PredT.v, PredT.w, PredT.l]; simp [hp])
      have vE := Eh (fl col v (Rd.kept wm.out HK.out (fun _ _ h => h)))
      generalize bP c col v = cb at *
      go_wp2_with (go_at_call 195; refine vE.out.mono ?_; rintro e5 w5 ⟨rfl, hk5⟩; have wN := Eh (vW.out.trans hk5 (fun _ h => h.elim)); clear hk5 vE x0 x1 x2 x3 x4 x5 x6 x7 x8 t0)
      go_ret
      exact ⟨by rw [vI.out, HO.out]; rfl, wN.out⟩
     ·have hp : pl.isEmpty = false := by cases hq : pl with | nil => exact absurd (by have := xn.out; rw [hq] at this; exact this.symm) h0 | cons _ _ => rfl
      have hN1 : ((N : Int) == 0) = false := by simp [h0]
      have hN2 : (N : Int) > 0 := by omega
      have HO := Eh (show aA c (.mk 3 col v w0 pl) = false by unfold aA; simp only [PredT.op, PredT.col, PredT.v, PredT.w, PredT.l]; simp [hp])
      go_wp2_with fail
      go_ret
      exact ⟨by rw [vI.out, HO.out]; rfl, vW.out⟩
    ·skip
     by_cases h0 : N = 0
     ·have hp : pl = [] := List.length_eq_zero_iff.1 (by rw [xn.out]; exact h0)
      have hN1 : ((N : Int) == 0) = true := by simp [h0]
      have hN2 : ¬ (N : Int) > 0 := by omega
      have HO := Eh (show aA c (.mk 4 col v w0 pl) = bP c col v by unfold aA; simp only [PredT.op, PredT.col, PredT.v, PredT.w, PredT.l]; simp [hp])
      have vE := Eh (fl col v (Rd.kept wm.out HK.out (fun _ _ h => h)))
      generalize bP c col v = cb at *
      go_wp2_with (go_at_call 195; refine vE.out.mono ?_; rintro e5 w5 ⟨rfl, hk5⟩; have wN := Eh (vW.out.trans hk5 (fun _ h => h.elim)); clear hk5 vE x0 x1 x2 x3 x4 x5 x6 x7 x8 t0)
      go_ret
      exact ⟨by rw [vI.out, HO.out]; rfl, wN.out⟩
     ·have hp : pl.isEmpty = false := by cases hq : pl with | nil => exact absurd (by have := xn.out; rw [hq] at this; exact this.symm) h0 | cons _ _ => rfl
      have hN1 : ((N : Int) == 0) = false := by simp [h0]
      have hN2 : (N : Int) > 0 := by omega
      have HO := Eh (show aA c (.mk 4 col v w0 pl) = false by unfold aA; simp only [PredT.op, PredT.col, PredT.v, PredT.w, PredT.l]; simp [hp])
      go_wp2_with fail
      go_ret
      exact ⟨by rw [vI.out, HO.out]; rfl, vW.out⟩
    ·skip
     by_cases h0 : N = 0
     ·have hp : pl = [] := List.length_eq_zero_iff.1 (by rw [xn.out]; exact h0)
      have hN1 : ((N : Int) == 0) = true := by simp [h0]
      have hN2 : ¬ (N : Int) > 0 := by omega
      have HO := Eh (show aA c (.mk 5 col v w0 pl) = bP c col v by unfold aA; simp only [PredT.op, PredT.col, PredT.v, PredT.w, PredT.l]; simp [hp])
      have vE := Eh (fl col v (Rd.kept wm.out HK.out (fun _ _ h => h)))
      generalize bP c col v = cb at *
      go_wp2_with (go_at_call 195; refine vE.out.mono ?_; rintro e5 w5 ⟨rfl, hk5⟩; have wN := Eh (vW.out.trans hk5 (fun _ h => h.elim)); clear hk5 vE x0 x1 x2 x3 x4 x5 x6 x7 x8 t0)
      go_ret
      exact ⟨by rw [vI.out, HO.out]; rfl, wN.out⟩
     ·have hp : pl.isEmpty = false := by cases hq : pl with | nil => exact absurd (by have := xn.out; rw [hq] at this; exact this.symm) h0 | cons _ _ => rfl
      have hN1 : ((N : Int) == 0) = false := by simp [h0]
      have hN2 : (N : Int) > 0 := by omega
      have HO := Eh (show aA c (.mk 5 col v w0 pl) = false by unfold aA; simp only [PredT.op, PredT.col, PredT.v, PredT.w, PredT.l]; simp [hp])
      go_wp2_with fail
      go_ret
      exact ⟨by rw [vI.out, HO.out]; rfl, vW.out⟩
    ·skip
     by_cases h0 : N = 0
     ·have hp : pl = [] := List.length_eq_zero_iff.1 (by rw [xn.out]; exact h0)
      have hN1 : ((N : Int) == 0) = true := by simp [h0]
      have hN2 : ¬ (N : Int) > 0 := by omega
      have HO := Eh (show aA c (.mk 6 col v w0 pl) = bP c col v by unfold aA; simp only [PredT.op, PredT.col, PredT.v, PredT.w, PredT.l]; simp [hp])
      have vE := Eh (fl col v (Rd.kept wm.out HK.out (fun _ _ h => h)))
      generalize bP c col v = cb at *
      go_wp2_with (go_at_call 195; refine vE.out.mono ?_; rintro e5 w5 ⟨rfl, hk5⟩; have wN := Eh (vW.out.trans hk5 (fun _ h => h.elim)); clear hk5 vE x0 x1 x2 x3 x4 x5 x6 x7 x8 t0)
      go_ret
      exact ⟨by rw [vI.out, HO.out]; rfl, wN.out⟩
     ·have hp : pl.isEmpty = false := by cases hq : pl with | nil => exact absurd (by have := xn.out; rw [hq] at this; exact this.symm) h0 | cons _ _ => rfl
      have hN1 : ((N : Int) == 0) = false := by simp [h0]
      have hN2 : (N : Int) > 0 := by omega
      have HO := Eh (show aA c (.mk 6 col v w0 pl) = false by unfold aA; simp only [PredT.op, PredT.col, PredT.v, PredT.w, PredT.l]; simp [hp])
      go_wp2_with fail
      go_ret
      exact ⟨by rw [vI.out, HO.out]; rfl, vW.out⟩
    ·skip
     by_cases h0 : N = 0
     ·have hp : pl = [] := List.length_eq_zero_iff.1 (by rw [xn.out]; exact h0)
      have hN1 : ((N : Int) == 0) = true := by simp [h0]
      have hN2 : ¬ (N : Int) > 0 := by omega
      have HO := Eh (show aA c (.mk 7 col v w0 pl) = bP c col v by unfold aA; simp only [PredT.op, PredT.col, PredT.v, PredT.w, PredT.l]; simp [hp])
      have vE := Eh (fl col v (Rd.kept wm.out HK.out (fun _ _ h => h)))
      generalize bP c col v = cb at *
      go_wp2_with (go_at_call 195; refine vE.out.mono ?_; rintro e5 w5 ⟨rfl, hk5⟩; have wN := Eh (vW.out.trans hk5 (fun _ h => h.elim)); clear hk5 vE x0 x1 x2 x3 x4 x5 x6 x7 x8 t0)
      go_ret
      exact ⟨by rw [vI.out, HO.out]; rfl, wN.out⟩
     ·have hp : pl.isEmpty = false := by cases hq : pl with | nil => exact absurd (by have := xn.out; rw [hq] at this; exact this.symm) h0 | cons _ _ => rfl
      have hN1 : ((N : Int) == 0) = false := by simp [h0]
      have hN2 : (N : Int) > 0 := by omega
      have HO := Eh (show aA c (.mk 7 col v w0 pl) = false by unfold aA; simp only [PredT.op, PredT.col, PredT.v, PredT.w, PredT.l]; simp [hp])
      go_wp2_with fail
      go_ret
      exact ⟨by rw [vI.out, HO.out]; rfl, vW.out⟩
    ·skip
     by_cases h0 : N = 0
     ·have hp : pl = [] := List.length_eq_zero_iff.1 (by rw [xn.out]; exact h0)
      have hN1 : ((N : Int) == 0) = true := by simp [h0]
      have hN2 : ¬ (N : Int) > 0 := by omega
      have HO := Eh (show aA c (.mk 8 col v w0 pl) = bP c col v by unfold aA; simp only [PredT.op, PredT.col, PredT.v, PredT.w, PredT.l]; simp [hp])
      have vE := Eh (fl col v (Rd.kept wm.out HK.out (fun _ _ h => h)))
      generalize bP c col v = cb at *
      go_wp2_with (go_at_call 195; refine vE.out.mono ?_; rintro e5 w5 ⟨rfl, hk5⟩; have wN := Eh (vW.out.trans hk5 (fun _ h => h.elim)); clear hk5 vE x0 x1 x2 x3 x4 x5 x6 x7 x8 t0)
      go_ret
      exact ⟨by rw [vI.out, HO.out]; rfl, wN.out⟩
     ·have hp : pl.isEmpty = false := by cases hq : pl with | nil => exact absurd (by have := xn.out; rw [hq] at this; exact this.symm) h0 | cons _ _ => rfl
      have hN1 : ((N : Int) == 0) = false := by simp [h0]
      have hN2 : (N : Int) > 0 := by omega
      have HO := Eh (show aA c (.mk 8 col v w0 pl) = false by unfold aA; simp only [PredT.op, PredT.col, PredT.v, PredT.w, PredT.l]; simp [hp])
      go_wp2_with fail
      go_ret
      exact ⟨by rw [vI.out, HO.out]; rfl, vW.out⟩
    ·skip
     by_cases h0 : N = 0
     ·have hp : pl = [] := List.length_eq_zero_iff.1 (by rw [xn.out]; exact h0)
      have hN1 : ((N : Int) == 0) = true := by simp [h0]
      have hN2 : ¬ (N : Int) > 0 := by omega
      cases hv : bP c col v
      ·have HV := Eh hv
       have HO := Eh (show aA c (.mk 9 col v w0 pl) = false by unfold aA; simp only [PredT.op, PredT.col, PredT.v, PredT.w, PredT.l]; simp [hv])
       have vE := Eh (fl col v (Rd.kept wm.out HK.out (fun _ _ h => h)))
       rw [HV.out] at vE
       clear hv
       go_wp2_with (go_at_call 195; refine vE.out.mono ?_; rintro e5 w5 ⟨rfl, hk5⟩; have wN := Eh (vW.out.trans hk5 (fun _ h => h.elim)); clear hk5 vE x0 x1 x2 x3 x4 x5 x6 x7 x8 t0)
       go_ret
       exact ⟨by rw [vI.out, HO.out]; rfl, wN.out⟩
      ·have HV := Eh hv
       have HO := Eh (show aA c (.mk 9 col v w0 pl) = bP c col w0 by unfold aA; simp only [PredT.op, PredT.col, PredT.v, PredT.w, PredT.l]; simp [hp, hv])
       have vE := Eh (fl col v (Rd.kept wm.out HK.out (fun _ _ h => h)))
       rw [HV.out] at vE
       go_wp2_with (first | (go_at_call 195; refine vE.out.mono ?_; rintro e5 w5 ⟨rfl, hk5⟩; have wN := Eh (vW.out.trans hk5 (fun _ h => h.elim)); have xe := Eh (HK.out.trans hk5 (fun _ h => h.elim)); have AC := Eh (fl col w0 (Rd.kept wm.out xe.out (fun _ _ h => h))); clear hk5 vE x0 x1 x2 x3 x4 x5 x6 x7 x8 t0; obtain ⟨x0, x1, x2, x3, x4, x5, x6, x7, x8, t0⟩ := HB.out w5 xe.out) | (go_at_call 195; refine AC.out.mono ?_; rintro e6 w6 ⟨rfl, hk6⟩; have DQ := Eh (wN.out.trans hk6 (fun _ h => h.elim)); clear hk6 AC x0 x1 x2 x3 x4 x5 x6 x7 x8 t0))
       go_ret
       exact ⟨by rw [vI.out, HO.out]; rfl, DQ.out⟩
     ·have hp : pl.isEmpty = false := by cases hq : pl with | nil => exact absurd (by have := xn.out; rw [hq] at this; exact this.symm) h0 | cons _ _ => rfl
      have hN1 : ((N : Int) == 0) = false := by simp [h0]
      have hN2 : (N : Int) > 0 := by omega
      have HO := Eh (show aA c (.mk 9 col v w0 pl) = false by unfold aA; simp only [PredT.op, PredT.col, PredT.v, PredT.w, PredT.l]; simp [hp])
      go_wp2_with fail
      go_ret
      exact ⟨by rw [vI.out, HO.out]; rfl, vW.out⟩
    ·skip
     by_cases h0 : N = 1
     ·have hN1 : ((N : Int) == 1) = true := by simp [h0]
      have HO := Eh (show aA c (.mk 10 col v w0 pl) = true by unfold aA; simp only [PredT.op, PredT.col, PredT.v, PredT.w, PredT.l]; simp [xn.out, h0])
      go_wp2_with fail
      go_ret
      exact ⟨by rw [vI.out, HO.out]; rfl, vW.out⟩
     ·have hN1 : ((N : Int) == 1) = false := by simp; omega
      have HO := Eh (show aA c (.mk 10 col v w0 pl) = false by unfold aA; simp only [PredT.op, PredT.col, PredT.v, PredT.w, PredT.l]; simp [xn.out, h0])
      go_wp2_with fail
      go_ret
      exact ⟨by rw [vI.out, HO.out]; rfl, vW.out⟩
    ·skip
     by_cases h0 : N = 0
     ·have hp : pl = [] := List.length_eq_zero_iff.1 (by rw [xn.out]; exact h0)
      have hN1 : ((N : Int) == 0) = true := by simp [h0]
      have hN2 : ¬ (N : Int) > 0 := by omega
      have HO := Eh (show aA c (.mk 11 col v w0 pl) = false by unfold aA; simp only [PredT.op, PredT.col, PredT.v, PredT.w, PredT.l]; simp [hp])
      go_wp2_with fail
      go_ret
      exact ⟨by rw [vI.out, HO.out]; rfl, vW.out⟩
     ·have hp : pl.isEmpty = false := by cases hq : pl with | nil => exact absurd (by have := xn.out; rw [hq] at this; exact this.symm) h0 | cons _ _ => rfl
      have hN1 : ((N : Int) == 0) = false := by simp [h0]
      have hN2 : (N : Int) > 0 := by omega
      have HO := Eh (show aA c (.mk 11 col v w0 pl) = true by unfold aA; simp only [PredT.op, PredT.col, PredT.v, PredT.w, PredT.l]; simp [xn.out]; omega)
      go_wp2_with fail
      go_ret
      exact ⟨by rw [vI.out, HO.out]; exact congrArg (fun b => Ending.returned (Value.bool b)) (decide_eq_true (by omega)), vW.out⟩
    ·skip
     by_cases h0 : N = 0
     ·have hp : pl = [] := List.length_eq_zero_iff.1 (by rw [xn.out]; exact h0)
      have hN1 : ((N : Int) == 0) = true := by simp [h0]
      have hN2 : ¬ (N : Int) > 0 := by omega
      have HO := Eh (show aA c (.mk 12 col v w0 pl) = false by unfold aA; simp only [PredT.op, PredT.col, PredT.v, PredT.w, PredT.l]; simp [hp])
      go_wp2_with fail
      go_ret
      exact ⟨by rw [vI.out, HO.out]; rfl, vW.out⟩
     ·have hp : pl.isEmpty = false := by cases hq : pl with | nil => exact absurd (by have := xn.out; rw [hq] at this; exact this.symm) h0 | cons _ _ => rfl
      have hN1 : ((N : Int) == 0) = false := by simp [h0]
      have hN2 : (N : Int) > 0 := by omega
      have HO := Eh (show aA c (.mk 12 col v w0 pl) = true by unfold aA; simp only [PredT.op, PredT.col, PredT.v, PredT.w, PredT.l]; simp [xn.out]; omega)
      go_wp2_with fail
      go_ret
      exact ⟨by rw [vI.out, HO.out]; exact congrArg (fun b => Ending.returned (Value.bool b)) (decide_eq_true (by omega)), vW.out⟩
   ·have n1 : ¬ op = 1 := by omega
    have n2 : ¬ op = 2 := by omega
    have n3 : ¬ op = 3 := by omega
    have n4 : ¬ op = 4 := by omega
    have n5 : ¬ op = 5 := by omega
    have n6 : ¬ op = 6 := by omega
    have n7 : ¬ op = 7 := by omega
    have n8 : ¬ op = 8 := by omega
    have n9 : ¬ op = 9 := by omega
    have n10 : ¬ op = 10 := by omega
    have n11 : ¬ op = 11 := by omega
    have n12 : ¬ op = 12 := by omega
    have HO := Eh (show aA c (.mk op col v w0 pl) = false by unfold aA; rw [if_neg (show ¬ ((PredT.mk op col v w0 pl).op = 1 ∨ (PredT.mk op col v w0 pl).op = 2) by show ¬ (op = 1 ∨ op = 2); omega), if_neg (show ¬ (3 ≤ (PredT.mk op col v w0 pl).op ∧ (PredT.mk op col v w0 pl).op ≤ 8) by show ¬ (3 ≤ op ∧ op ≤ 8); omega), if_neg (show ¬ ((PredT.mk op col v w0 pl).op = 9) by show ¬ (op = 9); omega), if_neg (show ¬ ((PredT.mk op col v w0 pl).op = 10) by show ¬ (op = 10); omega), if_neg (show ¬ ((PredT.mk op col v w0 pl).op = 11 ∨ (PredT.mk op col v w0 pl).op = 12) by show ¬ (op = 11 ∨ op = 12); omega)])
    go_wp2_with fail
    go_ret
    exact ⟨by rw [vI.out, HO.out]; rfl, vW.out⟩
theorem uu {w : World} {cv : Value} {c : List Bool} (x : PredE) (hc : du w cv c) (hm : gm c = true) (hat : PredsRd w (.slice x.la x.ln x.lc) x.subs) (hn : x.p.nodes.length ≤ 1000000) :
  Calls Tryz.prog 153 #[.agg #[cv], .agg x.cells.toArray] w fun e w' => e = .returned (.bool (cK c x.p)) ∧ Kept (fun _ => False) w w' := by
 obtain ⟨W1, hW1, hk1, hb1, hb2⟩ := iO w #[cv] x.cells.toArray dO tPr
 have hc1 := Rd.kept hc hk1 (fun _ _ h => h)
 have yV := Eh (nF hc1)
 rw [show kv c = true from hm] at yV
 have wm := Eh hc1
 have xr := Eh (hat.kept hk1)
 have uW := Eh hW1
 have vd := Eh hk1
 have vj := Eh hb1
 have vm := Eh hb2
 have ym := Eh hn
 obtain ⟨_, _, ca, cc, rfl, _⟩ := id hc
 obtain ⟨rr, hrr⟩ : ∃ rr, rr = cK c x.p := ⟨_, rfl⟩
 rw [← hrr]
 have vA := Eh hrr
 clear hc hc1 hat hn hW1 hk1 hb1 hb2 hrr hm
 go_enter Tryz.func153, Tryz.ntmps153
 go_upto_region 1 with fail
 rw [← uW.out]
 clear uW
 generalize w.heap.size + 1 = b2 at *
 generalize w.heap.size = b1 at *
 obtain ⟨t0, tf⟩ := aK vj.out
 go_upto_region 2 with (go_at_call 150; refine yV.out.mono ?_; rintro e1 w1 ⟨rfl, hk1⟩; have xe := Eh hk1; clear hk1 yV t0 tf)
 obtain ⟨t0, tf⟩ := aK (aB xe.out vj.out)
 have HL := Eh (bD (ak (aB xe.out vm.out)))
 have zC := Eh (ux x.p x w1 rfl ym.out (xr.out.kept xe.out))
 obtain ⟨N, hN⟩ : ∃ N, x.p.nodes.length = N := ⟨_, rfl⟩
 rw [hN] at zC
 have HN := Eh hN
 clear hN
 by_cases h15 : N ≤ 15
 ·have HO := Eh (show cK c x.p = x.p.nodes.all (aA c) by unfold cK; rw [HN.out, decide_eq_true h15]; simp)
  have h1 : (N : Int) ≤ 15 := by omega
  go_wp2_with (first
   | (refine bW rfl _ _ rfl _ _ rfl _ HL.out ?_)
   | (go_at_call 174; refine zC.out.mono ?_; rintro e2 w2 ⟨rfl, hk2⟩; have vp := Eh (xe.out.trans hk2 (fun _ h => h.elim)); clear hk2 zC HL t0 tf; obtain ⟨t0, tf⟩ := aK (aB vp.out vj.out); have HL := Eh (bD (ak (aB vp.out vm.out))); have BR := Eh (uv x.p x w2 rfl (Rd.kept wm.out vp.out (fun _ _ h => h)) (xr.out.kept vp.out)))
   | (go_at_call 175; refine BR.out.mono ?_; rintro e3 w3 ⟨rfl, hk3⟩; have vD := Eh (vp.out.trans hk3 (fun _ h => h.elim)); clear hk3 BR HL t0 tf))
  go_ret
  exact ⟨by rw [vA.out, HO.out]; rfl, vd.out.trans vD.out (fun _ h => h.elim)⟩
 ·have HO := Eh (show cK c x.p = false by unfold cK; rw [HN.out, decide_eq_false h15]; simp)
  have h1 : ¬ (N : Int) ≤ 15 := by omega
  go_wp2_with (first
   | (refine bW rfl _ _ rfl _ _ rfl _ HL.out ?_)
   | (go_at_call 174; refine zC.out.mono ?_; rintro e2 w2 ⟨rfl, hk2⟩; have vp := Eh (xe.out.trans hk2 (fun _ h => h.elim)); clear hk2 zC HL t0 tf))
  go_ret
  exact ⟨by rw [vA.out, HO.out]; rfl, vd.out.trans vp.out (fun _ h => h.elim)⟩
end Go.Proofs.YtgljdkjepdknnaaGreatDoor
