/- The document's answer for rows (ratlineref02): May, Fits, Same (printed by genst12.py). -/
import Derived.Test.YtcbklkcpjldcjaaJ26
import Derived.Test.YtcbklkcpjldcjaaJ16
namespace Go.Proofs.Ytcbklkcpjldcjaa
open Go.ChangeShapes Go.WideShapes Go.ChangeAt Go.RowKit
set_option maxRecDepth 100000
set_option linter.unusedSimpArgs false

theorem take_succ_eq {α : Type} {l1 l2 : List α} {k : Nat} {a : α} (h : l1.take k = l2.take k) (h1 : l1[k]? = some a) (h2 : l2[k]? = some a) : l1.take (k + 1) = l2.take (k + 1) := by
  rw [List.take_add_one, List.take_add_one, h, h1, h2]
theorem take_all_eq {α : Type} {l1 l2 : List α} {k : Nat} (h : l1.take k = l2.take k) (h1 : l1.length ≤ k) (h2 : l2.length ≤ k) : l1 = l2 := by
  rw [List.take_of_length_le h1, List.take_of_length_le h2] at h
  exact h
set_option maxHeartbeats 4000000 in
theorem rsame_ok {w : World} {v1 v2 : Value} {l1 l2 : List Val} (h1 : RowRd w v1 l1) (h2 : RowRd w v2 l2) :
    Calls Try.prog 16 #[v1, v2] w fun e w' => e = .returned (.bool (decide (l1 = l2))) ∧ ∃ n, w' = w.drewN n := by
  obtain ⟨_, m1, a1, c1, rfl, n1, _, _, g1⟩ := h1
  obtain ⟨_, m2, a2, c2, rfl, n2, _, _, g2⟩ := h2
  unfold maxLen at m1 m2
  by_cases hlen : l1.length = l2.length
  · rw [← hlen] at g2
    have G1 := Lib.hid g1
    have G2 := Lib.hid g2
    clear g1 g2
    generalize hL : l1.length = L at *
    rw [← hlen]
    go_enter Try.func16, Try.ntmps16
    go_wp2_with fail
    go_loopw [5] (fun i wr => ∃ k : Nat, i = .int .i64 k ∧ k ≤ L ∧ l1.take k = l2.take k ∧ ∃ n, wr = w.drewN n) (fun i _ => L - (intOf i).toNat)
    case atStart => exact ⟨0, rfl, by omega, rfl, 0, rfl⟩
    case round =>
      obtain ⟨k, rfl, hk, ht, n0, rfl⟩ := hrel
      have HT := Lib.hid ht
      clear ht
      by_cases hlt : k < L
      · obtain ⟨a, ha⟩ : ∃ a, l1[k]? = some a := ⟨l1[k]'(by omega), List.getElem?_eq_getElem (by omega)⟩
        obtain ⟨b, hb⟩ : ∃ b, l2[k]? = some b := ⟨l2[k]'(by omega), List.getElem?_eq_getElem (by omega)⟩
        rcases G1.out with h0 | ⟨b1, o1, rfl, hc1⟩
        · omega
        rcases G2.out with h0 | ⟨b2, o2, rfl, hc2⟩
        · omega
        have x0 := hc1 _ _ (flat_get Val.len l1 k a ha 0 _ rfl)
        have x1 := hc1 _ _ (flat_get Val.len l1 k a ha 1 _ rfl)
        have x2 := hc1 _ _ (flat_get Val.len l1 k a ha 2 _ rfl)
        have y0 := hc2 _ _ (flat_get Val.len l2 k b hb 0 _ rfl)
        have y1 := hc2 _ _ (flat_get Val.len l2 k b hb 1 _ rfl)
        have y2 := hc2 _ _ (flat_get Val.len l2 k b hb 2 _ rfl)
        rw [Nat.add_zero] at x0 y0
        rw [← Nat.add_assoc] at x1 x2 y1 y2
        have HA := Lib.hid ha
        have HB := Lib.hid hb
        clear ha hb hc1 hc2
        by_cases hab : a = b
        · subst hab
          go_wp2_with fail
          go_quiet (fail)
          go_wp2_with fail
          go_roundw
          case rel => exact ⟨k + 1, by go_num, by omega, take_succ_eq HT.out HA.out HB.out, _, rfl⟩
          case measure => simp [intOf]; omega
        · have hv : valEqB a.t a.n a.s b.t b.n b.s = false := by rw [valEqB_val]; exact decide_eq_false hab
          have hne : decide (l1 = l2) = false := decide_eq_false (fun e => by
            have h1 := HA.out
            have h2 := HB.out
            rw [e, h2] at h1
            exact hab (Option.some.inj h1).symm)
          have HNE := Lib.hid hne
          clear hne
          go_wp2_with fail
          go_quiet (fail)
          go_wp2_with fail
          go_ret
          exact ⟨by rw [HNE.out]; rfl, _, World.drewN_drewN _ _ _⟩
      · have heq : decide (l1 = l2) = true := decide_eq_true (take_all_eq HT.out (by omega) (by omega))
        have HEQ := Lib.hid heq
        clear heq
        go_wp2_with fail
        go_ret
        exact ⟨by rw [HEQ.out]; rfl, n0, rfl⟩
  · have hne : decide (l1 = l2) = false := decide_eq_false (fun e => hlen (by rw [e]))
    have hbe : ((l1.length : Int) == (l2.length : Int)) = false := by simp; omega
    have HNE := Lib.hid hne
    clear hne g1 g2
    go_enter Try.func16, Try.ntmps16
    go_wp2_with fail
    go_ret
    exact ⟨by rw [HNE.out]; rfl, 0, rfl⟩

def mayB (c : List Bool) : Bool := mayT c
theorem rmay_ok {w : World} {cv : Value} {c : List Bool} (h : ColRd w cv c) : Calls Try.prog 33 #[.agg #[cv]] w fun e w' => e = .returned (.bool (mayB c)) ∧ Kept (fun _ => False) w w' := by
  obtain ⟨-, m1, ao, cap, rfl, -⟩ := h
  have HK := Lib.hid (show Kept (fun _ => False) w (w.alloc (.cells #[.slice ao c.length cap] tTab)) from (Kept.refl _ _).alloc _)
  by_cases h1 : 1 ≤ c.length
  · by_cases h2 : c.length ≤ 4
    · have HM := Lib.hid (show mayB c = true by simp [mayB, mayT, h1, h2])
      have e1 : ((c.length : Int) ≥ 1) := by omega
      have e2 : ((c.length : Int) ≤ 4) := by omega
      go_enter Try.func33, Try.ntmps33
      go_wp2_with fail
      go_ret
      rw [HM.out]
      exact ⟨rfl, HK.out⟩
    · have HM := Lib.hid (show mayB c = false by simp [mayB, mayT, h2])
      have e1 : ((c.length : Int) ≥ 1) := by omega
      have e2 : ¬ ((c.length : Int) ≤ 4) := by omega
      go_enter Try.func33, Try.ntmps33
      go_wp2_with fail
      go_ret
      rw [HM.out]
      exact ⟨rfl, HK.out⟩
  · have HM := Lib.hid (show mayB c = false by simp [mayB, mayT, h1])
    have e1 : ¬ ((c.length : Int) ≥ 1) := by omega
    go_enter Try.func33, Try.ntmps33
    go_wp2_with fail
    go_ret
    rw [HM.out]
    exact ⟨rfl, HK.out⟩

set_option maxHeartbeats 4000000 in
theorem rfits_ok {w : World} {cv rv : Value} {c : List Bool} {r : List Val} (hc : ColRd w cv c) (hr : RowRd w rv r) : Calls Try.prog 12 #[.agg #[cv], rv] w fun e w' => e = .returned (.bool (fitsT c r)) ∧ Kept (fun _ => False) w w' := by
  have hk1 : Kept (fun _ => False) w (w.alloc (.cells #[cv] tTab)) := (Kept.refl _ _).alloc _
  have hb1 : (w.alloc (.cells #[cv] tTab)).heap[w.heap.size]? = some (.cells #[cv] tTab (0, 0)) := heap_alloc_self w _
  have HC := Lib.hid (Rd.kept hc hk1 (fun _ _ h => h))
  have HR := Lib.hid (Rd.kept hr hk1 (fun _ _ h => h))
  have HK1 := Lib.hid hk1
  have HB1 := Lib.hid hb1
  obtain ⟨-, m1, co, ccap, rfl, -⟩ := hc
  obtain ⟨-, m2, ro, rcap, rfl, -⟩ := hr
  clear hk1 hb1
  go_enter Try.func12, Try.ntmps12
  go_upto_region 1 with (fail)
  obtain ⟨W, hW⟩ : ∃ W, W = w.alloc (.cells #[.slice co c.length ccap] tTab) := ⟨_, rfl⟩
  rw [← hW] at HC HR HK1 HB1 ⊢
  generalize w.heap.size = bt at HB1 ⊢
  clear hW
  obtain ⟨b0, bf⟩ := cells1 HB1.out
  have HCH := Lib.hid (rmay_ok HC.out)
  cases hm : mayT c
  · have HM := Lib.hid (show mayB c = false from hm)
    have HF := Lib.hid (show fitsT c r = false by simp [fitsT, hm])
    clear hm
    go_wp2_with (go_at_call 33; refine HCH.out.mono ?_; rw [HM.out]; rintro e1 w1 ⟨rfl, hk2⟩; have HK2 := Lib.hid hk2; clear hk2 b0 bf)
    go_ret
    rw [HF.out]
    exact ⟨rfl, HK1.out.trans HK2.out (fun _ h => h.elim)⟩
  have HM := Lib.hid (show mayB c = true from hm)
  by_cases hl : r.length = c.length
  · obtain ⟨N, hN⟩ : ∃ N, r.length = N := ⟨_, rfl⟩
    have HF := Lib.hid (show fitsT c r = fitAt c r N by unfold fitsT; rw [hm, decide_eq_true hl, hN]; rfl)
    have HN := Lib.hid hN
    have hcn : c.length = N := by omega
    have HCN := Lib.hid hcn
    rw [hcn] at HC HCH HB1 b0 m1 ⊢
    rw [hN] at HR m2 ⊢
    unfold maxLen at m1 m2
    clear hm hl hN hcn
    go_upto_region 4 with (go_at_call 33; refine HCH.out.mono ?_; rw [HM.out]; rintro e1 w1 ⟨rfl, hk2⟩; have HK2 := Lib.hid hk2; clear hk2 b0 bf; have hb1 := (HK2.out.block _ (lt_of_heap HB1.out) (fun h => h)).trans HB1.out; obtain ⟨b0, bf⟩ := cells1 hb1; have HB2 := Lib.hid hb1; clear hb1)
    have HC2 := Lib.hid (Rd.kept HC.out HK2.out (fun _ _ h => h))
    have HR2 := Lib.hid (Rd.kept HR.out HK2.out (fun _ _ h => h))
    have HK3 := Lib.hid (HK1.out.trans HK2.out (fun _ h => h.elim))
    clear HC HR HB1 HCH HM HK1 HK2
    go_wp2_with fail
    clear b0 bf
    go_loopw [6] (fun idx wr => ∃ j : Nat, idx = .int .i64 j ∧ j ≤ N ∧ fitAt c r j = true ∧ Kept (fun _ => False) w1 wr) (fun idx _ => N - (intOf idx).toNat)
    case atStart => exact ⟨0, rfl, Nat.zero_le _, by simp [fitAt], Kept.refl _ _⟩
    case round =>
      obtain ⟨j, rfl, hj, hno, hkr⟩ := hrel
      by_cases hlt : j < N
      · obtain ⟨x, hx⟩ : ∃ x, r[j]? = some x := ⟨r[j]'(by rw [HN.out]; exact hlt), List.getElem?_eq_getElem _⟩
        obtain ⟨b, hb⟩ : ∃ b, c[j]? = some b := ⟨c[j]'(by rw [HCN.out]; exact hlt), List.getElem?_eq_getElem _⟩
        have hrr := Rd.kept HR2.out hkr (fun _ _ h => h)
        obtain ⟨rg, rog, rfl⟩ := row_src hrr hx HN.out
        obtain ⟨cg, cog, rfl⟩ := col_src HC2.out hb HCN.out
        obtain ⟨y0, y1, y2⟩ := key_cells hrr hx
        have HKR := Lib.hid hkr
        have HSUC := Lib.hid (fitAt_succ hx hb)
        have HNO := Lib.hid hno
        have HBC := Lib.hid hb
        have HX := Lib.hid hx
        have hib : (j : Int) < (N : Int) := by omega
        have HRT := Lib.hid (rright_ok x wr)
        clear hx hb hrr hno hkr
        cases hv : valRight x
        · have HFF := Lib.hid (show fitAt c r N = false from fitAt_less (show j + 1 ≤ N by omega) (by rw [HSUC.out, hv]; simp))
          have HV := Lib.hid hv
          clear hv
          go_upto_region 8 with (go_at_call 34; refine HRT.out.mono ?_; rw [HV.out]; rintro e4 w4 ⟨rfl, hk5⟩; have HK5 := Lib.hid ((HK3.out.trans HKR.out (fun _ h => h.elim)).trans hk5 (fun _ h => h.elim)); clear hk5 y0 y1 y2)
          go_quiet (fail)
          go_wp2_with fail
          go_ret
          rw [HF.out, HFF.out]
          exact ⟨rfl, HK5.out.trans ((Kept.refl (fun _ => False) w4).drewN _) (fun _ h => h.elim)⟩
        · have HV := Lib.hid hv
          go_upto_region 8 with (go_at_call 34; refine HRT.out.mono ?_; rw [HV.out]; rintro e4 w4 ⟨rfl, hk5⟩; have HK5 := Lib.hid (HKR.out.trans hk5 (fun _ h => h.elim)); clear hk5 y0 y1 y2)
          obtain ⟨b0, bf⟩ := cells1 ((HK5.out.block _ (lt_of_heap HB2.out) (fun h => h)).trans HB2.out)
          have hcc := col_cell (Rd.kept HC2.out HK5.out (fun _ _ h => h)) HBC.out
          obtain ⟨y0, y1, y2⟩ := key_cells (Rd.kept HR2.out HK5.out (fun _ _ h => h)) HX.out
          by_cases hxt : x.t = b
          · subst hxt
            have HFF := Lib.hid (show fitAt c r (j + 1) = true by rw [HSUC.out, hv, HNO.out]; simp)
            clear hv
            go_quiet (fail)
            go_wp2_with fail
            go_roundw
            case rel => exact ⟨j + 1, by go_num, by omega, HFF.out, HK5.out.trans ((Kept.refl (fun _ => False) w4).drewN _) (fun _ h => h.elim)⟩
            case measure => simp [intOf]; omega
          · obtain rfl : b = !x.t := by cases b <;> cases h : x.t <;> simp_all
            have HFF := Lib.hid (show fitAt c r N = false from fitAt_less (show j + 1 ≤ N by omega) (by rw [HSUC.out]; simp))
            clear hxt hv
            go_quiet (fail)
            go_wp2_with fail
            go_ret
            rw [HF.out, HFF.out]
            exact ⟨rfl, (HK3.out.trans HK5.out (fun _ h => h.elim)).trans ((Kept.refl (fun _ => False) w4).drewN _) (fun _ h => h.elim)⟩
      · obtain rfl : j = N := by omega
        have HFF := Lib.hid hno
        have HK9 := Lib.hid (HK3.out.trans hkr (fun _ h => h.elim))
        clear hno hkr
        go_wp2_with fail
        go_ret
        rw [HF.out, HFF.out]
        exact ⟨rfl, HK9.out⟩
  · have HF := Lib.hid (show fitsT c r = false by unfold fitsT; rw [hm, decide_eq_false hl]; rfl)
    have hl' : ¬ ((r.length : Int) = (c.length : Int)) := by omega
    clear hm hl
    go_wp2_with (go_at_call 33; refine HCH.out.mono ?_; rw [HM.out]; rintro e1 w1 ⟨rfl, hk2⟩; have HK2 := Lib.hid hk2; clear hk2 b0 bf; obtain ⟨b0, bf⟩ := cells1 ((HK2.out.block _ (lt_of_heap HB1.out) (fun h => h)).trans HB1.out))
    go_ret
    rw [HF.out]
    exact ⟨rfl, HK1.out.trans HK2.out (fun _ h => h.elim)⟩
end Go.Proofs.Ytcbklkcpjldcjaa
