/- The document's part, May of predicates (ratlineref03). (printed by genrm3.py) -/
import Derived.Test.YtgljdkjepdknnaaGreatDoorMT37
set_option maxHeartbeats 64000000
namespace Go.Proofs.YtgljdkjepdknnaaGreatDoor
open Go.ChangeShapes Go.WideShapes Go.ChangeAt Go.RowKit
set_option maxRecDepth 100000
set_option linter.unusedSimpArgs false
theorem rQ {cv : Value} {c : List Bool} : ∀ (p : PredT) (x : PredE) (w : World), x.p = p → da w cv c → PredsRd w (.slice x.la x.ln x.lc) x.subs →
  Calls Tryz.prog 175 #[.agg #[cv], .agg x.cells.toArray] w fun e w' => e = .returned (.bool (p.nodes.all (az c))) ∧ Kept (fun _ => False) w w' := by
 refine PredT.ind fun op col v w0 pl ih x w hx hc hat => ?_
 have hl : x.subs = pl := by unfold PredE.p at hx; cases hx; rfl
 obtain ⟨W1, hW1, hk1, hb1, hb2⟩ := gX w #[cv] x.cells.toArray dz tPr
 have hat1 := hat.kept hk1
 have hc1 := Rd.kept hc hk1 (fun _ _ h => h)
 obtain ⟨es, hrd, hsub, hes⟩ : ∃ es : List PredE, Rd W1 9 (.slice x.la x.ln x.lc) es.length (es.flatMap PredE.cells) ∧ x.subs = es.map PredE.p ∧ ∀ e ∈ es, PredsRd W1 (.slice e.la e.ln e.lc) e.subs := by
  generalize x.subs = xs at hat1
  cases hat1 with
  | mk _ es he hes => exact ⟨es, he, rfl, hes⟩
 obtain ⟨_, _, ca, cc, rfl, _⟩ := id hc
 have uU := BO (show (PredT.mk op col v w0 pl).nodes.all (az c) = (az c (.mk op col v w0 pl) && es.all (fun e => e.p.nodes.all (az c))) by rw [gd, ← hl, hsub, List.all_cons, List.flatMap_map, List.all_flatMap])
 obtain ⟨_, _, ra, rc, hav, _⟩ := id hrd
 have hln : x.ln = es.length := (Value.slice.inj hav).2.1
 have hml := hrd.2.1
 unfold maxLen at hml
 obtain ⟨N, hN⟩ : ∃ N, es.length = N := ⟨_, rfl⟩
 rw [hln, hN] at hrd
 rw [hN] at hml
 have vT := BO (show ∀ (j : Nat) (e : PredE) (W : World), es[j]? = some e → Kept (fun _ => False) W1 W → Calls Tryz.prog 175 #[.agg #[.slice ca c.length cc], .agg e.cells.toArray] W fun r w' => r = .returned (.bool (e.p.nodes.all (az c))) ∧ Kept (fun _ => False) W w' from
  fun j e W he k => ih e.p (by rw [← hl, hsub]; exact List.mem_map_of_mem (List.mem_of_getElem? he)) e W rfl (Rd.kept hc1 k (fun _ _ h => h)) ((hes e (List.mem_of_getElem? he)).kept k))
 have s5 := BO hrd
 have HN := BO hN
 have uO := BO (show pl.length = N by rw [← hl, hsub, List.length_map, hN])
 have tE := BO (show x.ln = N by rw [hln, hN])
 have vQ := BO (show x.op = op ∧ x.col = col ∧ x.v = v ∧ x.w = w0 by unfold PredE.p at hx; cases hx; exact ⟨rfl, rfl, rfl, rfl⟩)
 have tW := BO hc1
 have sR := BO hW1
 have sW := BO hk1
 have sZ := BO hb1
 have s7 := BO hb2
 obtain ⟨rr, hrr⟩ : ∃ rr, rr = (PredT.mk op col v w0 pl).nodes.all (az c) := ⟨_, rfl⟩
 rw [← hrr]
 have tl := BO hrr
 clear ih hx hat hat1 hl hsub hes hrd hav hln hN hW1 hk1 hb1 hb2 hrr hc hc1
 go_enter Tryz.func175, Tryz.ntmps175
 go_upto_region 1 with fail
 rw [← sR.out]
 clear sR
 generalize w.heap.size + 1 = b2 at *
 generalize w.heap.size = b1 at *
 obtain ⟨la, hla⟩ : ∃ la, la = x.la := ⟨_, rfl⟩
 obtain ⟨lc, hlc⟩ : ∃ lc, lc = x.lc := ⟨_, rfl⟩
 have HB := BO (show ∀ W, Kept (fun _ => False) W1 W → W.cell? ⟨b2, 0, none⟩ = some (.int .i64 op) ∧ W.cell? ⟨b2, 1, none⟩ = some (.int .i64 col) ∧ W.cell? ⟨b2, 2, none⟩ = some (.bool v.t) ∧ W.cell? ⟨b2, 3, none⟩ = some (.int .i64 v.n) ∧ W.cell? ⟨b2, 4, none⟩ = some (.string v.s) ∧ W.cell? ⟨b2, 5, none⟩ = some (.bool w0.t) ∧ W.cell? ⟨b2, 6, none⟩ = some (.int .i64 w0.n) ∧ W.cell? ⟨b2, 7, none⟩ = some (.string w0.s) ∧ W.cell? ⟨b2, 8, none⟩ = some (.slice la N lc) ∧ W.cell? ⟨b1, 0, none⟩ = some (.slice ca c.length cc) from fun W k => by
  obtain ⟨h0, h1, h2, h3, h4, h5, h6, h7, h8⟩ := aK (aA k s7.out)
  rw [tE.out, ← hla, ← hlc] at h8
  rw [vQ.out.1] at h0
  rw [vQ.out.2.1] at h1
  rw [vQ.out.2.2.1] at h2 h3 h4
  rw [vQ.out.2.2.2] at h5 h6 h7
  exact ⟨h0, h1, h2, h3, h4, h5, h6, h7, h8, (aM (aA k sZ.out)).1⟩)
 rw [← hla, ← hlc] at s5
 clear hla hlc vQ tE sZ s7
 go_wp2_with fail
 go_loopw [5] (fun i wr => ∃ j : Nat, i = .int .i64 j ∧ j ≤ N ∧ (es.take j).all (fun e => e.p.nodes.all (az c)) = true ∧ Kept (fun _ => False) W1 wr) (fun i _ => N - (intOf i).toNat)
 case atStart => exact ⟨0, rfl, by omega, rfl, Kept.refl _ _⟩
 case round =>
  obtain ⟨j, rfl, hj, hyes, hk⟩ := hrel
  have HK := BO hk
  have HY := BO hyes
  obtain ⟨x0, x1, x2, x3, x4, x5, x6, x7, x8, t0⟩ := HB.out wr hk
  clear hk hyes
  by_cases hlt : j < N
  ·have hii : (j : Int) < (N : Int) := by omega
   obtain ⟨e, he⟩ : ∃ e, es[j]? = some e := ⟨es[j]'(by rw [HN.out]; exact hlt), List.getElem?_eq_getElem _⟩
   obtain ⟨g, og, rfl, hrng⟩ := aD PredE.len (Rd.kept s5.out HK.out.drew (fun _ _ h => h)) he HN.out
   have HL := BO (bu (w := wr.drew) hrng)
   have HC := BO (vT.out j e wr.drew he HK.out.drew)
   have vI := BO (show (es.take (j + 1)).all (fun e => e.p.nodes.all (az c)) = e.p.nodes.all (az c) by rw [List.take_add_one, he, List.all_append, HY.out]; simp)
   have we := BO (List.mem_of_getElem? he)
   clear he hrng
   go_upto_region 4 with fail
   cases hb : e.p.nodes.all (az c)
   ·rw [hb] at HC
    have HF := BO (show es.all (fun e => e.p.nodes.all (az c)) = false from List.all_eq_false.2 ⟨e, we.out, by rw [hb]; simp⟩)
    clear hb
    refine af [(0, false, 6), (1, false, 6), (2, false, 6), (3, false, 6), (4, false, 6), (5, false, 6), (6, true, 0), (7, false, 999)] (by kernel_rfl) (by kernel_rfl) ?_
    iterate 6 (refine ae rfl rfl (fun K hK => ?_); (first | ((refine aj _ _ rfl _ _ rfl _ HL.out ?_); go_simp) | go_simp); refine hK _ ?_; clear hK K)
    refine al rfl ?_
    refine aw rfl (fun K hK => ?_)
    go_simp
    refine HC.out.mono ?_
    rintro e4 w4 ⟨rfl, hk4⟩
    have ud := BO (HK.out.drew.trans hk4 (fun _ h => h.elim))
    clear hk4 HC HL x0 x1 x2 x3 x4 x5 x6 x7 x8 t0
    refine hK _ _ ?_
    clear hK K
    refine wpList_nil ?_
    refine And.intro ?_ ?_
    ·go_simp
    refine ae rfl rfl (fun K hK => ?_); (first | ((refine aj _ _ rfl _ _ rfl _ HL.out ?_); go_simp) | go_simp); refine hK _ ?_; clear hK K
    refine ap ?_
    go_wp2_with fail
    go_ret
    exact ⟨by rw [tl.out, uU.out, HF.out]; simp, sW.out.trans ud.out (fun _ h => h.elim)⟩
   ·rw [hb] at HC vI
    clear hb
    refine af [(0, false, 6), (1, false, 6), (2, false, 6), (3, false, 6), (4, false, 6), (5, false, 6), (6, true, 0), (7, false, 999)] (by kernel_rfl) (by kernel_rfl) ?_
    iterate 6 (refine ae rfl rfl (fun K hK => ?_); (first | ((refine aj _ _ rfl _ _ rfl _ HL.out ?_); go_simp) | go_simp); refine hK _ ?_; clear hK K)
    refine al rfl ?_
    refine aw rfl (fun K hK => ?_)
    go_simp
    refine HC.out.mono ?_
    rintro e4 w4 ⟨rfl, hk4⟩
    have ud := BO (HK.out.drew.trans hk4 (fun _ h => h.elim))
    clear hk4 HC HL x0 x1 x2 x3 x4 x5 x6 x7 x8 t0
    refine hK _ _ ?_
    clear hK K
    refine wpList_nil ?_
    refine And.intro ?_ ?_
    ·go_simp
    refine ae rfl rfl (fun K hK => ?_); (first | ((refine aj _ _ rfl _ _ rfl _ HL.out ?_); go_simp) | go_simp); refine hK _ ?_; clear hK K
    refine ap ?_
    go_wp2_with fail
    go_roundw
    case rel => exact ⟨j + 1, by go_num, by omega, vI.out, ud.out⟩
    case measure => simp [intOf]; omega
  ·have hii : ¬ ((j : Int) < (N : Int)) := by omega
   have tp := BO (show rr = az c (.mk op col v w0 pl) by rw [tl.out, uU.out, show es.all (fun e => e.p.nodes.all (az c)) = true by have := HY.out; rwa [List.take_of_length_le (by rw [HN.out]; omega)] at this]; simp)
   have tN := BO (sW.out.trans HK.out (fun _ h => h.elim))
   clear tl uU vT s5
   go_upto_region 7 with fail
   by_cases hop : 1 ≤ op ∧ op ≤ 12
   ·have h12 : op = 1 ∨ op = 2 ∨ op = 3 ∨ op = 4 ∨ op = 5 ∨ op = 6 ∨ op = 7 ∨ op = 8 ∨ op = 9 ∨ op = 10 ∨ op = 11 ∨ op = 12 := by omega
    clear hop
    rcases h12 with rfl | rfl | rfl | rfl | rfl | rfl | rfl | rfl | rfl | rfl | rfl | rfl
    ·skip
     by_cases h0 : N = 0
     ·have hp : pl = [] := List.length_eq_zero_iff.1 (by rw [uO.out]; exact h0)
      have hN1 : ((N : Int) == 0) = true := by simp [h0]
      have hN2 : ¬ (N : Int) > 0 := by omega
      have HO := BO (show az c (.mk 1 col v w0 pl) = true by unfold az; simp only [PredT.op, PredT.col, PredT.v, PredT.w, PredT.l]; simp [hp])
      go_wp2_with fail
      go_ret
      exact ⟨by rw [tp.out, HO.out]; rfl, tN.out⟩
     ·have hp : pl.isEmpty = false := by cases hq : pl with | nil => exact absurd (by have := uO.out; rw [hq] at this; exact this.symm) h0 | cons _ _ => rfl
      have hN1 : ((N : Int) == 0) = false := by simp [h0]
      have hN2 : (N : Int) > 0 := by omega
      have HO := BO (show az c (.mk 1 col v w0 pl) = false by unfold az; simp only [PredT.op, PredT.col, PredT.v, PredT.w, PredT.l]; simp [hp])
      go_wp2_with fail
      go_ret
      exact ⟨by rw [tp.out, HO.out]; rfl, tN.out⟩
    ·skip
     by_cases h0 : N = 0
     ·have hp : pl = [] := List.length_eq_zero_iff.1 (by rw [uO.out]; exact h0)
      have hN1 : ((N : Int) == 0) = true := by simp [h0]
      have hN2 : ¬ (N : Int) > 0 := by omega
      have HO := BO (show az c (.mk 2 col v w0 pl) = true by unfold az; simp only [PredT.op, PredT.col, PredT.v, PredT.w, PredT.l]; simp [hp])
      go_wp2_with fail
      go_ret
      exact ⟨by rw [tp.out, HO.out]; rfl, tN.out⟩
     ·have hp : pl.isEmpty = false := by cases hq : pl with | nil => exact absurd (by have := uO.out; rw [hq] at this; exact this.symm) h0 | cons _ _ => rfl
      have hN1 : ((N : Int) == 0) = false := by simp [h0]
      have hN2 : (N : Int) > 0 := by omega
      have HO := BO (show az c (.mk 2 col v w0 pl) = false by unfold az; simp only [PredT.op, PredT.col, PredT.v, PredT.w, PredT.l]; simp [hp])
      go_wp2_with fail
      go_ret
      exact ⟨by rw [tp.out, HO.out]; rfl, tN.out⟩
    ·skip
     by_cases h0 : N = 0
     ·have hp : pl = [] := List.length_eq_zero_iff.1 (by rw [uO.out]; exact h0)
      have hN1 : ((N : Int) == 0) = true := by simp [h0]
      have hN2 : ¬ (N : Int) > 0 := by omega
      have HO := BO (show az c (.mk 3 col v w0 pl) = bE c col v by unfold az; simp only [PredT.op, PredT.col, PredT.v, PredT.w, PredT.l]; simp [hp])
      have toq := BO (eK col v (Rd.kept tW.out HK.out (fun _ _ h => h)))
      generalize bE c col v = cb at *
      go_wp2_with (go_at_call 195; refine toq.out.mono ?_; rintro e5 w5 ⟨rfl, hk5⟩; have uq := BO (tN.out.trans hk5 (fun _ h => h.elim)); clear hk5 toq x0 x1 x2 x3 x4 x5 x6 x7 x8 t0)
      go_ret
      exact ⟨by rw [tp.out, HO.out]; rfl, uq.out⟩
     ·have hp : pl.isEmpty = false := by cases hq : pl with | nil => exact absurd (by have := uO.out; rw [hq] at this; exact this.symm) h0 | cons _ _ => rfl
      have hN1 : ((N : Int) == 0) = false := by simp [h0]
      have hN2 : (N : Int) > 0 := by omega
      have HO := BO (show az c (.mk 3 col v w0 pl) = false by unfold az; simp only [PredT.op, PredT.col, PredT.v, PredT.w, PredT.l]; simp [hp])
      go_wp2_with fail
      go_ret
      exact ⟨by rw [tp.out, HO.out]; rfl, tN.out⟩
    ·skip
     by_cases h0 : N = 0
     ·have hp : pl = [] := List.length_eq_zero_iff.1 (by rw [uO.out]; exact h0)
      have hN1 : ((N : Int) == 0) = true := by simp [h0]
      have hN2 : ¬ (N : Int) > 0 := by omega
      have HO := BO (show az c (.mk 4 col v w0 pl) = bE c col v by unfold az; simp only [PredT.op, PredT.col, PredT.v, PredT.w, PredT.l]; simp [hp])
      have toq := BO (eK col v (Rd.kept tW.out HK.out (fun _ _ h => h)))
      generalize bE c col v = cb at *
      go_wp2_with (go_at_call 195; refine toq.out.mono ?_; rintro e5 w5 ⟨rfl, hk5⟩; have uq := BO (tN.out.trans hk5 (fun _ h => h.elim)); clear hk5 toq x0 x1 x2 x3 x4 x5 x6 x7 x8 t0)
      go_ret
      exact ⟨by rw [tp.out, HO.out]; rfl, uq.out⟩
     ·have hp : pl.isEmpty = false := by cases hq : pl with | nil => exact absurd (by have := uO.out; rw [hq] at this; exact this.symm) h0 | cons _ _ => rfl
      have hN1 : ((N : Int) == 0) = false := by simp [h0]
      have hN2 : (N : Int) > 0 := by omega
      have HO := BO (show az c (.mk 4 col v w0 pl) = false by unfold az; simp only [PredT.op, PredT.col, PredT.v, PredT.w, PredT.l]; simp [hp])
      go_wp2_with fail
      go_ret
      exact ⟨by rw [tp.out, HO.out]; rfl, tN.out⟩
    ·skip
     by_cases h0 : N = 0
     ·have hp : pl = [] := List.length_eq_zero_iff.1 (by rw [uO.out]; exact h0)
      have hN1 : ((N : Int) == 0) = true := by simp [h0]
      have hN2 : ¬ (N : Int) > 0 := by omega
      have HO := BO (show az c (.mk 5 col v w0 pl) = bE c col v by unfold az; simp only [PredT.op, PredT.col, PredT.v, PredT.w, PredT.l]; simp [hp])
      have toq := BO (eK col v (Rd.kept tW.out HK.out (fun _ _ h => h)))
      generalize bE c col v = cb at *
      go_wp2_with (go_at_call 195; refine toq.out.mono ?_; rintro e5 w5 ⟨rfl, hk5⟩; have uq := BO (tN.out.trans hk5 (fun _ h => h.elim)); clear hk5 toq x0 x1 x2 x3 x4 x5 x6 x7 x8 t0)
      go_ret
      exact ⟨by rw [tp.out, HO.out]; rfl, uq.out⟩
     ·have hp : pl.isEmpty = false := by cases hq : pl with | nil => exact absurd (by have := uO.out; rw [hq] at this; exact this.symm) h0 | cons _ _ => rfl
      have hN1 : ((N : Int) == 0) = false := by simp [h0]
      have hN2 : (N : Int) > 0 := by omega
      have HO := BO (show az c (.mk 5 col v w0 pl) = false by unfold az; simp only [PredT.op, PredT.col, PredT.v, PredT.w, PredT.l]; simp [hp])
      go_wp2_with fail
      go_ret
      exact ⟨by rw [tp.out, HO.out]; rfl, tN.out⟩
    ·skip
     by_cases h0 : N = 0
     ·have hp : pl = [] := List.length_eq_zero_iff.1 (by rw [uO.out]; exact h0)
      have hN1 : ((N : Int) == 0) = true := by simp [h0]
      have hN2 : ¬ (N : Int) > 0 := by omega
      have HO := BO (show az c (.mk 6 col v w0 pl) = bE c col v by unfold az; simp only [PredT.op, PredT.col, PredT.v, PredT.w, PredT.l]; simp [hp])
      have toq := BO (eK col v (Rd.kept tW.out HK.out (fun _ _ h => h)))
      generalize bE c col v = cb at *
      go_wp2_with (go_at_call 195; refine toq.out.mono ?_; rintro e5 w5 ⟨rfl, hk5⟩; have uq := BO (tN.out.trans hk5 (fun _ h => h.elim)); clear hk5 toq x0 x1 x2 x3 x4 x5 x6 x7 x8 t0)
      go_ret
      exact ⟨by rw [tp.out, HO.out]; rfl, uq.out⟩
     ·have hp : pl.isEmpty = false := by cases hq : pl with | nil => exact absurd (by have := uO.out; rw [hq] at this; exact this.symm) h0 | cons _ _ => rfl
      have hN1 : ((N : Int) == 0) = false := by simp [h0]
      have hN2 : (N : Int) > 0 := by omega
      have HO := BO (show az c (.mk 6 col v w0 pl) = false by unfold az; simp only [PredT.op, PredT.col, PredT.v, PredT.w, PredT.l]; simp [hp])
      go_wp2_with fail
      go_ret
      exact ⟨by rw [tp.out, HO.out]; rfl, tN.out⟩
    ·skip
     by_cases h0 : N = 0
     ·have hp : pl = [] := List.length_eq_zero_iff.1 (by rw [uO.out]; exact h0)
      have hN1 : ((N : Int) == 0) = true := by simp [h0]
      have hN2 : ¬ (N : Int) > 0 := by omega
      have HO := BO (show az c (.mk 7 col v w0 pl) = bE c col v by unfold az; simp only [PredT.op, PredT.col, PredT.v, PredT.w, PredT.l]; simp [hp])
      have toq := BO (eK col v (Rd.kept tW.out HK.out (fun _ _ h => h)))
      generalize bE c col v = cb at *
      go_wp2_with (go_at_call 195; refine toq.out.mono ?_; rintro e5 w5 ⟨rfl, hk5⟩; have uq := BO (tN.out.trans hk5 (fun _ h => h.elim)); clear hk5 toq x0 x1 x2 x3 x4 x5 x6 x7 x8 t0)
      go_ret
      exact ⟨by rw [tp.out, HO.out]; rfl, uq.out⟩
     ·have hp : pl.isEmpty = false := by cases hq : pl with | nil => exact absurd (by have := uO.out; rw [hq] at this; exact this.symm) h0 | cons _ _ => rfl
      have hN1 : ((N : Int) == 0) = false := by simp [h0]
      have hN2 : (N : Int) > 0 := by omega
      have HO := BO (show az c (.mk 7 col v w0 pl) = false by unfold az; simp only [PredT.op, PredT.col, PredT.v, PredT.w, PredT.l]; simp [hp])
      go_wp2_with fail
      go_ret
      exact ⟨by rw [tp.out, HO.out]; rfl, tN.out⟩
    ·skip
     by_cases h0 : N = 0
     ·have hp : pl = [] := List.length_eq_zero_iff.1 (by rw [uO.out]; exact h0)
      have hN1 : ((N : Int) == 0) = true := by simp [h0]
      have hN2 : ¬ (N : Int) > 0 := by omega
      have HO := BO (show az c (.mk 8 col v w0 pl) = bE c col v by unfold az; simp only [PredT.op, PredT.col, PredT.v, PredT.w, PredT.l]; simp [hp])
      have toq := BO (eK col v (Rd.kept tW.out HK.out (fun _ _ h => h)))
      generalize bE c col v = cb at *
      go_wp2_with (go_at_call 195; refine toq.out.mono ?_; rintro e5 w5 ⟨rfl, hk5⟩; have uq := BO (tN.out.trans hk5 (fun _ h => h.elim)); clear hk5 toq x0 x1 x2 x3 x4 x5 x6 x7 x8 t0)
      go_ret
      exact ⟨by rw [tp.out, HO.out]; rfl, uq.out⟩
     ·have hp : pl.isEmpty = false := by cases hq : pl with | nil => exact absurd (by have := uO.out; rw [hq] at this; exact this.symm) h0 | cons _ _ => rfl
      have hN1 : ((N : Int) == 0) = false := by simp [h0]
      have hN2 : (N : Int) > 0 := by omega
      have HO := BO (show az c (.mk 8 col v w0 pl) = false by unfold az; simp only [PredT.op, PredT.col, PredT.v, PredT.w, PredT.l]; simp [hp])
      go_wp2_with fail
      go_ret
      exact ⟨by rw [tp.out, HO.out]; rfl, tN.out⟩
    ·skip
     by_cases h0 : N = 0
     ·have hp : pl = [] := List.length_eq_zero_iff.1 (by rw [uO.out]; exact h0)
      have hN1 : ((N : Int) == 0) = true := by simp [h0]
      have hN2 : ¬ (N : Int) > 0 := by omega
      cases hv : bE c col v
      ·have HV := BO hv
       have HO := BO (show az c (.mk 9 col v w0 pl) = false by unfold az; simp only [PredT.op, PredT.col, PredT.v, PredT.w, PredT.l]; simp [hv])
       have toq := BO (eK col v (Rd.kept tW.out HK.out (fun _ _ h => h)))
       rw [HV.out] at toq
       clear hv
       go_wp2_with (go_at_call 195; refine toq.out.mono ?_; rintro e5 w5 ⟨rfl, hk5⟩; have uq := BO (tN.out.trans hk5 (fun _ h => h.elim)); clear hk5 toq x0 x1 x2 x3 x4 x5 x6 x7 x8 t0)
       go_ret
       exact ⟨by rw [tp.out, HO.out]; rfl, uq.out⟩
      ·have HV := BO hv
       have HO := BO (show az c (.mk 9 col v w0 pl) = bE c col w0 by unfold az; simp only [PredT.op, PredT.col, PredT.v, PredT.w, PredT.l]; simp [hp, hv])
       have toq := BO (eK col v (Rd.kept tW.out HK.out (fun _ _ h => h)))
       rw [HV.out] at toq
       go_wp2_with (first | (go_at_call 195; refine toq.out.mono ?_; rintro e5 w5 ⟨rfl, hk5⟩; have uq := BO (tN.out.trans hk5 (fun _ h => h.elim)); have uI := BO (HK.out.trans hk5 (fun _ h => h.elim)); have ye := BO (eK col w0 (Rd.kept tW.out uI.out (fun _ _ h => h))); clear hk5 toq x0 x1 x2 x3 x4 x5 x6 x7 x8 t0; obtain ⟨x0, x1, x2, x3, x4, x5, x6, x7, x8, t0⟩ := HB.out w5 uI.out) | (go_at_call 195; refine ye.out.mono ?_; rintro e6 w6 ⟨rfl, hk6⟩; have BE := BO (uq.out.trans hk6 (fun _ h => h.elim)); clear hk6 ye x0 x1 x2 x3 x4 x5 x6 x7 x8 t0))
       go_ret
       exact ⟨by rw [tp.out, HO.out]; rfl, BE.out⟩
     ·have hp : pl.isEmpty = false := by cases hq : pl with | nil => exact absurd (by have := uO.out; rw [hq] at this; exact this.symm) h0 | cons _ _ => rfl
      have hN1 : ((N : Int) == 0) = false := by simp [h0]
      have hN2 : (N : Int) > 0 := by omega
      have HO := BO (show az c (.mk 9 col v w0 pl) = false by unfold az; simp only [PredT.op, PredT.col, PredT.v, PredT.w, PredT.l]; simp [hp])
      go_wp2_with fail
      go_ret
      exact ⟨by rw [tp.out, HO.out]; rfl, tN.out⟩
    ·skip
     by_cases h0 : N = 1
     ·have hN1 : ((N : Int) == 1) = true := by simp [h0]
      have HO := BO (show az c (.mk 10 col v w0 pl) = true by unfold az; simp only [PredT.op, PredT.col, PredT.v, PredT.w, PredT.l]; simp [uO.out, h0])
      go_wp2_with fail
      go_ret
      exact ⟨by rw [tp.out, HO.out]; rfl, tN.out⟩
     ·have hN1 : ((N : Int) == 1) = false := by simp; omega
      have HO := BO (show az c (.mk 10 col v w0 pl) = false by unfold az; simp only [PredT.op, PredT.col, PredT.v, PredT.w, PredT.l]; simp [uO.out, h0])
      go_wp2_with fail
      go_ret
      exact ⟨by rw [tp.out, HO.out]; rfl, tN.out⟩
    ·skip
     by_cases h0 : N = 0
     ·have hp : pl = [] := List.length_eq_zero_iff.1 (by rw [uO.out]; exact h0)
      have hN1 : ((N : Int) == 0) = true := by simp [h0]
      have hN2 : ¬ (N : Int) > 0 := by omega
      have HO := BO (show az c (.mk 11 col v w0 pl) = false by unfold az; simp only [PredT.op, PredT.col, PredT.v, PredT.w, PredT.l]; simp [hp])
      go_wp2_with fail
      go_ret
      exact ⟨by rw [tp.out, HO.out]; rfl, tN.out⟩
     ·have hp : pl.isEmpty = false := by cases hq : pl with | nil => exact absurd (by have := uO.out; rw [hq] at this; exact this.symm) h0 | cons _ _ => rfl
      have hN1 : ((N : Int) == 0) = false := by simp [h0]
      have hN2 : (N : Int) > 0 := by omega
      have HO := BO (show az c (.mk 11 col v w0 pl) = true by unfold az; simp only [PredT.op, PredT.col, PredT.v, PredT.w, PredT.l]; simp [uO.out]; omega)
      go_wp2_with fail
      go_ret
      exact ⟨by rw [tp.out, HO.out]; exact congrArg (fun b => Ending.returned (Value.bool b)) (decide_eq_true (by omega)), tN.out⟩
    ·skip
     by_cases h0 : N = 0
     ·have hp : pl = [] := List.length_eq_zero_iff.1 (by rw [uO.out]; exact h0)
      have hN1 : ((N : Int) == 0) = true := by simp [h0]
      have hN2 : ¬ (N : Int) > 0 := by omega
      have HO := BO (show az c (.mk 12 col v w0 pl) = false by unfold az; simp only [PredT.op, PredT.col, PredT.v, PredT.w, PredT.l]; simp [hp])
      go_wp2_with fail
      go_ret
      exact ⟨by rw [tp.out, HO.out]; rfl, tN.out⟩
     ·have hp : pl.isEmpty = false := by cases hq : pl with | nil => exact absurd (by have := uO.out; rw [hq] at this; exact this.symm) h0 | cons _ _ => rfl
      have hN1 : ((N : Int) == 0) = false := by simp [h0]
      have hN2 : (N : Int) > 0 := by omega
      have HO := BO (show az c (.mk 12 col v w0 pl) = true by unfold az; simp only [PredT.op, PredT.col, PredT.v, PredT.w, PredT.l]; simp [uO.out]; omega)
      go_wp2_with fail
      go_ret
      exact ⟨by rw [tp.out, HO.out]; exact congrArg (fun b => Ending.returned (Value.bool b)) (decide_eq_true (by omega)), tN.out⟩
   ·have n1 : ¬ op = 1 := by omega
    have n2 : ¬ op = 2 := by omega
    have n3 : ¬ op = 3 := by omega
    have n4 : ¬ op = 4 := by omega
    have n5 : ¬ op = 5 := by omega
    have n6 : ¬ op = 6 := by omega
    have n7 : ¬ op = 7 := by omega
    have n8 : ¬ op = 8 := by omega
    have n9 : ¬ op = 9 := by omega
    have n10 : ¬ op = 10 := by omega
    have n11 : ¬ op = 11 := by omega
    have n12 : ¬ op = 12 := by omega
    have HO := BO (show az c (.mk op col v w0 pl) = false by unfold az; rw [if_neg (show ¬ ((PredT.mk op col v w0 pl).op = 1 ∨ (PredT.mk op col v w0 pl).op = 2) by show ¬ (op = 1 ∨ op = 2); omega), if_neg (show ¬ (3 ≤ (PredT.mk op col v w0 pl).op ∧ (PredT.mk op col v w0 pl).op ≤ 8) by show ¬ (3 ≤ op ∧ op ≤ 8); omega), if_neg (show ¬ ((PredT.mk op col v w0 pl).op = 9) by show ¬ (op = 9); omega), if_neg (show ¬ ((PredT.mk op col v w0 pl).op = 10) by show ¬ (op = 10); omega), if_neg (show ¬ ((PredT.mk op col v w0 pl).op = 11 ∨ (PredT.mk op col v w0 pl).op = 12) by show ¬ (op = 11 ∨ op = 12); omega)])
    go_wp2_with fail
    go_ret
    exact ⟨by rw [tp.out, HO.out]; rfl, tN.out⟩
theorem r6 {w : World} {cv : Value} {c : List Bool} (x : PredE) (hc : da w cv c) (hm : fA c = true) (hat : PredsRd w (.slice x.la x.ln x.lc) x.subs) (hn : x.p.nodes.length ≤ 1000000) :
  Calls Tryz.prog 153 #[.agg #[cv], .agg x.cells.toArray] w fun e w' => e = .returned (.bool (cA c x.p)) ∧ Kept (fun _ => False) w w' := by
 obtain ⟨W1, hW1, hk1, hb1, hb2⟩ := gX w #[cv] x.cells.toArray dz tPr
 have hc1 := Rd.kept hc hk1 (fun _ _ h => h)
 have wq := BO (lW hc1)
 rw [show jw c = true from hm] at wq
 have tW := BO hc1
 have uR := BO (hat.kept hk1)
 have sR := BO hW1
 have sW := BO hk1
 have sZ := BO hb1
 have s7 := BO hb2
 have wn := BO hn
 obtain ⟨_, _, ca, cc, rfl, _⟩ := id hc
 obtain ⟨rr, hrr⟩ : ∃ rr, rr = cA c x.p := ⟨_, rfl⟩
 rw [← hrr]
 have tl := BO hrr
 clear hc hc1 hat hn hW1 hk1 hb1 hb2 hrr hm
 go_enter Tryz.func153, Tryz.ntmps153
 go_upto_region 1 with fail
 rw [← sR.out]
 clear sR
 generalize w.heap.size + 1 = b2 at *
 generalize w.heap.size = b1 at *
 obtain ⟨t0, tf⟩ := aM sZ.out
 go_upto_region 2 with (go_at_call 150; refine wq.out.mono ?_; rintro e1 w1 ⟨rfl, hk1⟩; have uI := BO hk1; clear hk1 wq t0 tf)
 obtain ⟨t0, tf⟩ := aM (aA uI.out sZ.out)
 have HL := BO (bu (ai (aA uI.out s7.out)))
 have wZ := BO (rE x.p x w1 rfl wn.out (uR.out.kept uI.out))
 obtain ⟨N, hN⟩ : ∃ N, x.p.nodes.length = N := ⟨_, rfl⟩
 rw [hN] at wZ
 have HN := BO hN
 clear hN
 by_cases h15 : N ≤ 15
 ·have HO := BO (show cA c x.p = x.p.nodes.all (az c) by unfold cA; rw [HN.out, decide_eq_true h15]; simp)
  have h1 : (N : Int) ≤ 15 := by omega
  go_wp2_with (first
   | (refine bG rfl _ _ rfl _ _ rfl _ HL.out ?_)
   | (go_at_call 174; refine wZ.out.mono ?_; rintro e2 w2 ⟨rfl, hk2⟩; have s8 := BO (uI.out.trans hk2 (fun _ h => h.elim)); clear hk2 wZ HL t0 tf; obtain ⟨t0, tf⟩ := aM (aA s8.out sZ.out); have HL := BO (bu (ai (aA s8.out s7.out))); have A8 := BO (rQ x.p x w2 rfl (Rd.kept tW.out s8.out (fun _ _ h => h)) (uR.out.kept s8.out)))
   | (go_at_call 175; refine A8.out.mono ?_; rintro e3 w3 ⟨rfl, hk3⟩; have tn := BO (s8.out.trans hk3 (fun _ h => h.elim)); clear hk3 A8 HL t0 tf))
  go_ret
  exact ⟨by rw [tl.out, HO.out]; rfl, sW.out.trans tn.out (fun _ h => h.elim)⟩
 ·have HO := BO (show cA c x.p = false by unfold cA; rw [HN.out, decide_eq_false h15]; simp)
  have h1 : ¬ (N : Int) ≤ 15 := by omega
  go_wp2_with (first
   | (refine bG rfl _ _ rfl _ _ rfl _ HL.out ?_)
   | (go_at_call 174; refine wZ.out.mono ?_; rintro e2 w2 ⟨rfl, hk2⟩; have s8 := BO (uI.out.trans hk2 (fun _ h => h.elim)); clear hk2 wZ HL t0 tf))
  go_ret
  exact ⟨by rw [tl.out, HO.out]; rfl, sW.out.trans s8.out (fun _ h => h.elim)⟩
end Go.Proofs.YtgljdkjepdknnaaGreatDoor
