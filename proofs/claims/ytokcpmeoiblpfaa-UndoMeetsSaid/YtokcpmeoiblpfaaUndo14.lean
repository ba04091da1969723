/- ratlinelaw07.UndoMeets: the walk. -/
import Derived.Test.YtokcpmeoiblpfaaUndo11
import Derived.Test.YtokcpmeoiblpfaaUndoOpen
import Derived.Test.YtokcpmeoiblpfaaUndoVal
namespace Go.Proofs.Ytokcpmeoiblpfaa
open Go.ChangeShapes Go.WideShapes Go.ChangeAt Go.RowKit
set_option maxRecDepth 100000
set_option linter.unusedSimpArgs false

/-! ### plain: each key once, in order -/
theorem snoc_ind {α : Type} {p : List α → Prop} (h0 : p []) (hs : ∀ l x, p l → p (l ++ [x])) (l : List α) : p l := by
  rw [← List.reverse_reverse l]
  generalize l.reverse = r
  induction r with
  | nil => exact h0
  | cons x r ih => rw [List.reverse_cons]; exact hs _ _ ih
def metOf (l : List Spot) : List Spot := l.foldl addMet []
theorem metOf_snoc (l : List Spot) (p : Spot) : metOf (l ++ [p]) = addMet (metOf l) p := by simp [metOf]
theorem mem_metOf (l : List Spot) : ∀ q, q ∈ metOf l ↔ q ∈ l := by
  refine snoc_ind (p := fun l => ∀ q, q ∈ metOf l ↔ q ∈ l) (by simp [metOf]) (fun l p ih q => ?_) l
  · rw [metOf_snoc]
    unfold addMet
    split
    · rename_i h
      rw [ih] at h ⊢
      simp only [List.mem_append, List.mem_singleton]
      exact ⟨.inl, fun h2 => h2.elim id (fun e => e ▸ h)⟩
    · simp only [List.mem_append, List.mem_singleton, ih]
theorem metOf_len (l : List Spot) : (metOf l).length ≤ l.length := by
  refine snoc_ind (p := fun l => (metOf l).length ≤ l.length) (by simp [metOf]) (fun l p ih => ?_) l
  · rw [metOf_snoc]; have := addMet_len (metOf l) p; simp; omega
theorem metOf_prefix (l r : List Spot) : metOf l <+: metOf (l ++ r) := by
  refine snoc_ind (p := fun r => metOf l <+: metOf (l ++ r)) (by simp) (fun r p ih => ?_) r
  · rw [← List.append_assoc, metOf_snoc]
    unfold addMet
    split
    · exact ih
    · exact ih.trans (List.prefix_append _ _)
theorem metOf_take_succ {l : List Spot} {i : Nat} {p : Spot} (h : l[i]? = some p) : metOf (l.take (i + 1)) = addMet (metOf (l.take i)) p := by
  rw [List.take_add_one, h]
  exact metOf_snoc _ _
/-- the key at the place of the first time -/
theorem metOf_at {l : List Spot} {i : Nat} {p : Spot} (h : l[i]? = some p) (hn : p ∉ l.take i) : (metOf l)[(metOf (l.take i)).length]? = some p := by
  have e := metOf_take_succ h
  unfold addMet at e
  rw [if_neg (by rw [mem_metOf]; exact hn)] at e
  have hp := metOf_prefix (l.take (i + 1)) (l.drop (i + 1))
  rw [List.take_append_drop, e] at hp
  obtain ⟨r, hr⟩ := hp
  rw [← hr]
  simp

set_option maxHeartbeats 8000000 in
theorem meets_ok {w : World} {ao : Option Addr} {nn cap : Nat} {es : List (Ent × List Val)} (n : Int) (hrd : Rd w 5 (.slice ao nn cap) es.length (es.flatMap (fun p => p.1.cells))) (hes : EntsRd w es) (hsz : EntsSized es) :
    Calls Try.prog 5 #[.slice ao nn cap, .int .i64 n] w fun e' w' => e' = .returned (.bool true) ∧ Kept (fun _ => False) w w' := by
  obtain ⟨hx, hml, ao', cap', hv, hnc, hcm, hnil, hcell⟩ := id hrd
  cases hv
  have HRD := Lib.hid hrd
  have HES := Lib.hid hes
  have HSZ := Lib.hid hsz
  have HC := Lib.hid hcell
  unfold maxLen at hml
  clear hrd hes hsz hx hnil hcell
  generalize hL : es.length = L at *
  go_enter Try.func5, Try.ntmps5
  go_wp2_with fail
  refine (awake_ok w).mono ?_
  rintro e1 w1 ⟨rfl, h1⟩
  have H1 := Lib.hid h1
  clear h1
  by_cases hL60 : 60 < L
  · go_wp2_with fail
    go_ret
    exact ⟨rfl, H1.out⟩
  · by_cases hn1 : n < 1
    · go_wp2_with fail
      go_ret
      exact ⟨rfl, H1.out⟩
    · by_cases hn3 : 3 < n
      · go_wp2_with fail
        go_ret
        exact ⟨rfl, H1.out⟩
      · go_wp2_with fail
        refine (new_st 60 H1.out).mono ?_
        rintro e2 w2 ⟨b, rfl, h2⟩
        have H2 := Lib.hid (h2.weaken (B := fun _ => False) (fun _ h => h.elim))
        clear h2 H1
        go_wp2_with fail
        refine (save_st n (by omega) (by simp) H2.out).mono ?_
        rintro e3 w3 ⟨rfl, h3, -⟩
        have H3 := Lib.hid h3
        clear h3 H2
        go_wp2_with fail
        go_loopw [7] (fun i wr => ∃ (k : Nat) (ls : List Ent), i = .int .i64 k ∧ k ≤ L ∧ ls.length ≤ k ∧
          St w wr b (fun _ => False) 60 ls (fun j => if j = n then 1 else 0) (metOf ((es.map (fun p => p.1.spot)).take k))) (fun i _ => L - (intOf i).toNat)
        case atStart => exact ⟨0, [], rfl, by omega, by simp, H3.out⟩
        case round =>
          obtain ⟨k, ls, rfl, hk, hls, hst⟩ := hrel
          have HST := Lib.hid hst
          clear hst H3
          by_cases hlt : k < L
          · obtain ⟨x, hx⟩ : ∃ x, es[k]? = some x := ⟨es[k]'(by omega), List.getElem?_eq_getElem (by omega)⟩
            obtain ⟨e, vs⟩ := x
            obtain ⟨hwf, hrow, hvwf⟩ := HES.out _ (List.mem_of_getElem? hx)
            have hsz := HSZ.out.2 _ (List.mem_of_getElem? hx)
            have hpx : (es.map (fun p => p.1.spot))[k]? = some e.spot := by rw [List.getElem?_map, hx]; rfl
            rcases HC.out with h0 | ⟨g, o, rfl, hcl⟩
            · omega
            have K0 := HST.out.kept0
            have a0 := K0.cell' (hcl _ _ (flat_get (fun p => Ent.len p.1) es k _ hx 0 _ rfl)) (fun h => h)
            have a1 := K0.cell' (hcl _ _ (flat_get (fun p => Ent.len p.1) es k _ hx 1 _ rfl)) (fun h => h)
            have a2 := K0.cell' (hcl _ _ (flat_get (fun p => Ent.len p.1) es k _ hx 2 _ rfl)) (fun h => h)
            have a3 := K0.cell' (hcl _ _ (flat_get (fun p => Ent.len p.1) es k _ hx 3 _ rfl)) (fun h => h)
            have a4 := K0.cell' (hcl _ _ (flat_get (fun p => Ent.len p.1) es k _ hx 4 _ rfl)) (fun h => h)
            rw [Nat.add_zero] at a0
            rw [← Nat.add_assoc] at a1 a2 a3 a4
            have hrd := hrow.kept K0 (fun _ _ h => h)
            have HRW := Lib.hid hrd
            have HWF := Lib.hid hwf
            have HS1 := Lib.hid hsz
            have HPX := Lib.hid hpx
            clear hrow hrd hwf hvwf hpx K0 hcl hsz
            have hone : ∀ u ∈ vs.flatMap Val.cells, u.oneCell' = true := fun u hu => by
              obtain ⟨a, _, ha⟩ := List.mem_flatMap.1 hu
              exact Val.one a u ha
            have HONE := Lib.hid hone
            clear hone
            go_wp2_with fail
            refine (push_st e (by omega) (by omega) HRW.out HONE.out HS1.out HWF.out (by have := metOf_len ((es.map (fun p => p.1.spot)).take k); simp at this; omega) HST.out).mono ?_
            rintro e4 w4 ⟨rfl, v4, h4, -, -⟩
            have em : metOf ((es.map (fun p => p.1.spot)).take (k + 1)) = addMet (metOf ((es.map (fun p => p.1.spot)).take k)) ⟨e.t, e.k⟩ := metOf_take_succ HPX.out
            have H4 := Lib.hid (h4.weaken (B := fun _ => False) (fun _ h => h.elim))
            rw [← em] at H4
            clear h4 a0 a1 a2 a3 a4 HST em
            go_wp2_with fail
            · refine (back_as n 0 (L := ls.length + 1) (es' := []) (sv' := fun j => if j = n then 1 else 0) (by simp; omega) (by omega) (by simp) (by omega) (by simp) rfl (by simp) (by funext j; by_cases h : j = n <;> simp [gone, h]) H4.out).mono ?_
              rintro e5 w5 ⟨a5, c5, rfl, -, h5, -⟩
              have H5 := Lib.hid (h5.weaken (B := fun _ => False) (fun _ h => h.elim))
              clear h5 H4
              go_wp2_with fail
              go_roundw
              case rel => exact ⟨k + 1, [], by go_num, by omega, by simp, H5.out⟩
              case measure => simp [intOf]; omega
            · go_roundw
              case rel => exact ⟨k + 1, _, by go_num, by omega, by simp; omega, H4.out⟩
              case measure => simp [intOf]; omega
          · go_wp2_with fail
            obtain rfl : k = L := by omega
            have hSP : (es.map (fun p => p.1.spot)).take k = es.map (fun p => p.1.spot) := List.take_of_length_le (by simp; omega)
            rw [hSP] at HST
            have hml2 := metOf_len (es.map (fun p => p.1.spot))
            simp only [List.length_map, hL] at hml2
            refine (touched_st (by omega) HST.out).mono ?_
            rintro e6 w6 ⟨a6, c6, rfl, ho6, h6, -⟩
            have H6 := Lib.hid h6
            have O6 := Lib.hid ho6
            clear h6 HST ho6
            generalize hM : metOf (es.map (fun p => p.1.spot)) = M at *
            go_wp2_with fail
            go_loopw [10, 9] (fun i c wr => ∃ (j cc : Nat), i = .int .i64 j ∧ c = .int .i64 cc ∧ j ≤ k ∧ cc = (metOf ((es.map (fun p => p.1.spot)).take j)).length ∧ Kept (fun _ => False) w6 wr) (fun i _ _ => k - (intOf i).toNat)
            case atStart => exact ⟨0, 0, rfl, rfl, by omega, rfl, Kept.refl _ _⟩
            case round =>
              obtain ⟨j, cc, rfl, rfl, hj, hcc, hk⟩ := hrel
              have HK := Lib.hid hk
              have HCC := Lib.hid hcc
              clear hk hcc
              by_cases hlt : j < k
              · obtain ⟨x, hx⟩ : ∃ x, es[j]? = some x := ⟨es[j]'(by omega), List.getElem?_eq_getElem (by omega)⟩
                obtain ⟨e, vs⟩ := x
                have hpx : (es.map (fun p => p.1.spot))[j]? = some e.spot := by rw [List.getElem?_map, hx]; rfl
                rcases HC.out with h0 | ⟨g, o, rfl, hcl⟩
                · omega
                have HCL := Lib.hid hcl
                have HX := Lib.hid hx
                have HPX := Lib.hid hpx
                clear hcl hx hpx
                have K0 : Kept (fun _ => False) w wr := H6.out.kept0.trans HK.out (fun _ h => h.elim)
                have HK0 := Lib.hid K0
                clear K0
                go_wp2_with fail
                go_loopw [12, 11] (fun q a wr2 => ∃ (u : Nat), q = .int .i64 u ∧ a = .bool (decide (e.spot ∈ (es.map (fun p => p.1.spot)).take u)) ∧ u ≤ j ∧ Kept (fun _ => False) wr wr2) (fun q _ _ => j - (intOf q).toNat)
                case atStart => exact ⟨0, rfl, rfl, by omega, Kept.refl _ _⟩
                case round =>
                  obtain ⟨u, rfl, rfl, hu, hk2⟩ := hrel
                  have HK2 := Lib.hid hk2
                  have K2 := HK0.out.trans hk2 (fun _ h => h.elim)
                  clear hk2
                  by_cases hlu : u < j
                  · obtain ⟨y, hy⟩ : ∃ y, es[u]? = some y := ⟨es[u]'(by omega), List.getElem?_eq_getElem (by omega)⟩
                    obtain ⟨e2, vs2⟩ := y
                    have hpy : (es.map (fun p => p.1.spot))[u]? = some e2.spot := by rw [List.getElem?_map, hy]; rfl
                    have huL : u < k := by omega
                    have a0 := K2.cell' (HCL.out _ _ (flat_get (fun p => Ent.len p.1) es j _ HX.out 0 _ rfl)) (fun h => h)
                    have a1 := K2.cell' (HCL.out _ _ (flat_get (fun p => Ent.len p.1) es j _ HX.out 1 _ rfl)) (fun h => h)
                    have a2 := K2.cell' (HCL.out _ _ (flat_get (fun p => Ent.len p.1) es j _ HX.out 2 _ rfl)) (fun h => h)
                    have a3 := K2.cell' (HCL.out _ _ (flat_get (fun p => Ent.len p.1) es j _ HX.out 3 _ rfl)) (fun h => h)
                    have b0 := K2.cell' (HCL.out _ _ (flat_get (fun p => Ent.len p.1) es u _ hy 0 _ rfl)) (fun h => h)
                    have b1 := K2.cell' (HCL.out _ _ (flat_get (fun p => Ent.len p.1) es u _ hy 1 _ rfl)) (fun h => h)
                    have b2 := K2.cell' (HCL.out _ _ (flat_get (fun p => Ent.len p.1) es u _ hy 2 _ rfl)) (fun h => h)
                    have b3 := K2.cell' (HCL.out _ _ (flat_get (fun p => Ent.len p.1) es u _ hy 3 _ rfl)) (fun h => h)
                    rw [Nat.add_zero] at a0 b0
                    rw [← Nat.add_assoc] at a1 a2 a3 b1 b2 b3
                    have HPY := Lib.hid hpy
                    clear hy hpy K2
                    have hstep : ∀ r : Bool, r = (decide (e.spot ∈ (es.map (fun p => p.1.spot)).take u) || decide (e2.spot = e.spot)) → r = decide (e.spot ∈ (es.map (fun p => p.1.spot)).take (u + 1)) := by
                      intro r hr
                      rw [List.take_add_one, HPY.out, hr]
                      simp [eq_comm]
                    have HST2 := Lib.hid hstep
                    clear hstep
                    by_cases hin : e.spot ∈ (es.map (fun p => p.1.spot)).take u
                    · have hd := decide_eq_true hin
                      rw [hd]
                      have HD := Lib.hid hd
                      clear hin hd
                      go_wp2_with fail
                      go_quiet (fail)
                      go_wp2_with fail
                      go_roundw
                      case rel => exact ⟨u + 1, by go_num, congrArg Value.bool (HST2.out true (by rw [HD.out, Bool.true_or])), by omega, HK2.out.drewN _⟩
                      case measure => simp [intOf]; omega
                    · have hd := decide_eq_false hin
                      rw [hd]
                      have HD := Lib.hid hd
                      clear hin hd
                      by_cases ht : e2.t = e.t
                      · rw [ht] at b0
                        have hbt : decide (e2.spot = e.spot) = valEqB e2.k.t e2.k.n e2.k.s e.k.t e.k.n e.k.s := by
                          rw [valEqB_val]
                          unfold Ent.spot
                          simp [ht]
                        have HBT := Lib.hid hbt
                        clear hbt
                        go_wp2_with fail
                        go_quiet (fail)
                        go_wp2_with fail
                        go_roundw
                        case rel => exact ⟨u + 1, by go_num, congrArg Value.bool (HST2.out _ (by rw [HD.out, HBT.out, Bool.false_or])), by omega, HK2.out.drewN _⟩
                        case measure => simp [intOf]; omega
                      · have hbt : decide (e2.spot = e.spot) = false := by
                          unfold Ent.spot
                          simp [ht]
                        have HBT := Lib.hid hbt
                        clear hbt
                        go_wp2_with fail
                        go_quiet (fail)
                        go_wp2_with fail
                        go_roundw
                        case rel => exact ⟨u + 1, by go_num, congrArg Value.bool (HST2.out false (by rw [HD.out, HBT.out, Bool.false_or])), by omega, HK2.out.drewN _⟩
                        case measure => simp [intOf]; omega
                  · obtain rfl : u = j := by omega
                    by_cases hin : e.spot ∈ (es.map (fun p => p.1.spot)).take u
                    · have hd := decide_eq_true hin
                      rw [hd]
                      have hcc2 : cc = (metOf ((es.map (fun p => p.1.spot)).take (u + 1))).length := by
                        rw [metOf_take_succ HPX.out]
                        unfold addMet
                        rw [if_pos ((mem_metOf _ _).2 hin)]
                        exact HCC.out
                      have HC2 := Lib.hid hcc2
                      clear hin hd hcc2
                      go_wp2_with fail
                      go_roundw
                      case rel => exact ⟨u + 1, cc, by go_num, rfl, by omega, HC2.out, HK.out.trans HK2.out (fun _ h => h.elim)⟩
                      case measure => simp [intOf]; omega
                    · have hd := decide_eq_false hin
                      rw [hd]
                      have hcc2 : cc + 1 = (metOf ((es.map (fun p => p.1.spot)).take (u + 1))).length := by
                        rw [metOf_take_succ HPX.out]
                        unfold addMet
                        rw [if_neg (fun h => hin ((mem_metOf _ _).1 h)), List.length_append, ← HCC.out]
                        rfl
                      have hat := metOf_at HPX.out hin
                      rw [hM, ← HCC.out] at hat
                      have hcm2 : cc < M.length := (List.getElem?_eq_some_iff.1 hat).1
                      have KT := HK.out.trans HK2.out (fun _ h => h.elim)
                      have OT := O6.out.kept KT (fun _ _ h => h)
                      obtain ⟨g6, cp6, e6, -⟩ := OT.form (by omega)
                      rw [e6] at OT
                      have hte : (M.map Spot.ent)[cc]? = some e.spot.ent := by rw [List.getElem?_map, hat]; rfl
                      have b0 := OT.cells _ _ (flat_get Ent.len _ cc _ hte 0 _ rfl)
                      have b1 := OT.cells _ _ (flat_get Ent.len _ cc _ hte 1 _ rfl)
                      have b2 := OT.cells _ _ (flat_get Ent.len _ cc _ hte 2 _ rfl)
                      have b3 := OT.cells _ _ (flat_get Ent.len _ cc _ hte 3 _ rfl)
                      have a0 := K2.cell' (HCL.out _ _ (flat_get (fun p => Ent.len p.1) es u _ HX.out 0 _ rfl)) (fun h => h)
                      have a1 := K2.cell' (HCL.out _ _ (flat_get (fun p => Ent.len p.1) es u _ HX.out 1 _ rfl)) (fun h => h)
                      have a2 := K2.cell' (HCL.out _ _ (flat_get (fun p => Ent.len p.1) es u _ HX.out 2 _ rfl)) (fun h => h)
                      have a3 := K2.cell' (HCL.out _ _ (flat_get (fun p => Ent.len p.1) es u _ HX.out 3 _ rfl)) (fun h => h)
                      rw [Nat.add_zero] at a0 b0
                      rw [← Nat.add_assoc] at a1 a2 a3
                      unfold Spot.ent Ent.spot at b0 b1 b2 b3
                      dsimp only at b0 b1 b2 b3
                      have HC2 := Lib.hid hcc2
                      have HKT := Lib.hid KT
                      rw [e6]
                      clear hin hd hcc2 hat KT OT hte K2
                      go_wp2_with fail
                      go_quiet (fail)
                      go_wp2_with fail
                      go_roundw
                      case rel => exact ⟨u + 1, cc + 1, by go_num, by go_num, by omega, HC2.out, HKT.out.drewN _⟩
                      case measure => simp [intOf]; omega
              · go_wp2_with fail
                refine (all_st (by omega) (H6.out.frame HK.out)).mono ?_
                rintro e7 w7 ⟨a7, c7, rfl, -, h7, -⟩
                have H7 := Lib.hid (h7.weaken (B := fun _ => False) (fun _ h => h.elim))
                clear h7
                obtain rfl : j = k := by omega
                have hcM := HCC.out
                rw [hSP, hM] at hcM
                subst hcM
                go_wp2_with fail
                refine (touched_st (by simp) H7.out).mono ?_
                rintro e8 w8 ⟨a8, c8, rfl, -, h8, -⟩
                have K8 := Lib.hid h8.kept0
                clear h8
                go_wp2_with fail
                go_ret
                exact ⟨rfl, K8.out⟩
end Go.Proofs.Ytokcpmeoiblpfaa
