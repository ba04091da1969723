/- ratlinelaw07.UndoTurns: the walk. -/
import Derived.Test.YtokcpmeoiblpfaaUndo11
import Derived.Test.YtokcpmeoiblpfaaUndoSame
namespace Go.Proofs.Ytokcpmeoiblpfaa
open Go.ChangeShapes Go.WideShapes Go.ChangeAt Go.RowKit
set_option maxRecDepth 100000
set_option linter.unusedSimpArgs false

/-- an entry of the log is one that was handed in, with a copy of its row that is the log's own -/
def Cp (w : World) (A : Nat → Prop) (e : Ent) (p : Ent × List Val) : Prop := e.t = p.1.t ∧ e.k = p.1.k ∧ RowRd w e.was p.2 ∧ ∀ g, e.was.ownBlock = some g → A g
def Copies (w : World) (A : Nat → Prop) (es : List Ent) (ps : List (Ent × List Val)) : Prop := es.length = ps.length ∧ ∀ (i : Nat) e p, es[i]? = some e → ps[i]? = some p → Cp w A e p
theorem Cp.frame {w0 w w' : World} {A B : Nat → Prop} {e : Ent} {p : Ent × List Val} (h : Cp w A e p) (hk : Kept (Out w0 A) w w') (hB : ∀ k, A k → B k) : Cp w' B e p :=
  ⟨h.1, h.2.1, h.2.2.1.kept hk (fun g hg ho => ho.2 (h.2.2.2 g hg)), fun g hg => hB g (h.2.2.2 g hg)⟩
theorem Copies.frame {w0 w w' : World} {A B : Nat → Prop} {es : List Ent} {ps : List (Ent × List Val)} (h : Copies w A es ps) (hk : Kept (Out w0 A) w w') (hB : ∀ k, A k → B k) : Copies w' B es ps :=
  ⟨h.1, fun i e p he hp => (h.2 i e p he hp).frame hk hB⟩
theorem Copies.nil (w : World) (A : Nat → Prop) : Copies w A [] [] := ⟨rfl, fun i e p he => by simp at he⟩
theorem Copies.snoc {w : World} {A : Nat → Prop} {es : List Ent} {ps : List (Ent × List Val)} {e : Ent} {p : Ent × List Val} (h : Copies w A es ps) (hc : Cp w A e p) : Copies w A (es ++ [e]) (ps ++ [p]) := by
  refine ⟨by simp [h.1], fun i e' p' he hp => ?_⟩
  by_cases hi : i < es.length
  · rw [List.getElem?_append_left hi] at he
    rw [List.getElem?_append_left (by rw [← h.1]; exact hi)] at hp
    exact h.2 i e' p' he hp
  · rw [List.getElem?_append_right (by omega)] at he
    rw [List.getElem?_append_right (by rw [← h.1]; omega), ← h.1] at hp
    have h0 : i - es.length = 0 := by
      have := (List.getElem?_eq_some_iff.1 he).1
      simp at this
      omega
    rw [h0] at he hp
    simp at he hp
    subst he hp
    exact hc
theorem Copies.step {w0 w w' : World} {A : Nat → Prop} {es : List Ent} {ps : List (Ent × List Val)} {k : Nat} {p : Ent × List Val} {wv : Value} (h : Copies w A es (ps.take k)) (hp : ps[k]? = some p) (hk : Kept (Out w0 A) w w')
    (ho : Own w' 23 3 wv p.2.length (p.2.flatMap Val.cells)) (hwf : ∀ a ∈ p.2, a.wf) : Copies w' (fun k => A k ∨ wv.ownBlock = some k) (es ++ [⟨p.1.t, p.1.k, wv⟩]) (ps.take (k + 1)) := by
  rw [List.take_add_one, hp]
  exact (h.frame hk (fun _ h => .inl h)).snoc ⟨rfl, rfl, ⟨ho.rd, hwf⟩, fun g hg => .inr hg⟩

set_option maxHeartbeats 8000000 in
theorem turns_ok {w : World} {ao0 ao1 : Option Addr} {n0 n1 cap0 cap1 : Nat} {es0 es1 : List (Ent × List Val)} (n : Int)
    (hrd0 : Rd w 5 (.slice ao0 n0 cap0) es0.length (es0.flatMap (fun p => p.1.cells))) (hes0 : EntsRd w es0) (hsz0 : EntsSized es0)
    (hrd1 : Rd w 5 (.slice ao1 n1 cap1) es1.length (es1.flatMap (fun p => p.1.cells))) (hes1 : EntsRd w es1) (hsz1 : EntsSized es1) :
    Calls Try.prog 7 #[.slice ao0 n0 cap0, .slice ao1 n1 cap1, .int .i64 n] w fun e' w' => e' = .returned (.bool true) ∧ Kept (fun _ => False) w w' := by
  obtain ⟨_, hml0, _, _, hv0, hnc0, hcm0, _, hcell0⟩ := hrd0
  cases hv0
  obtain ⟨_, hml1, _, _, hv1, hnc1, hcm1, _, hcell1⟩ := hrd1
  cases hv1
  have hb0 := hsz0.1
  have hb1 := hsz1.1
  have HES0 := Lib.hid hes0
  have HSZ0 := Lib.hid hsz0.2
  have HC0 := Lib.hid hcell0
  have HES1 := Lib.hid hes1
  have HSZ1 := Lib.hid hsz1.2
  have HC1 := Lib.hid hcell1
  clear hes0 hsz0 hcell0 hes1 hsz1 hcell1 hml0 hml1
  generalize hL0 : es0.length = L0 at *
  generalize hL1 : es1.length = L1 at *
  go_enter Try.func7, Try.ntmps7
  go_wp2_with fail
  refine (awake_ok w).mono ?_
  rintro e1 w1 ⟨rfl, h1⟩
  have H1 := Lib.hid h1
  clear h1
  by_cases hs : (60 : Int) < (L0 : Int) + (L1 : Int)
  · go_wp2_with fail
    go_ret
    exact ⟨rfl, H1.out⟩
  · have hl0 : ¬ (60 : Int) < (L0 : Int) := by omega
    have hl1 : ¬ (60 : Int) < (L1 : Int) := by omega
    by_cases hn1 : n < 1
    · go_wp2_with fail
      go_ret
      exact ⟨rfl, H1.out⟩
    · by_cases hn3 : 3 < n
      · go_wp2_with fail
        go_ret
        exact ⟨rfl, H1.out⟩
      · go_wp2_with fail
        refine (new_st 60 H1.out).mono ?_
        rintro e2 w2 ⟨b, rfl, h2⟩
        have H2 := Lib.hid (h2.weaken (B := fun _ => False) (fun _ h => h.elim))
        clear h2 H1
        go_wp2_with fail
        go_loopw [9] (fun i wr => ∃ (k : Nat) (E : List Ent) (A : Nat → Prop) (met : List Spot), i = .int .i64 k ∧ k ≤ L0 ∧ E.length = k ∧ met.length ≤ k ∧ St w wr b A 60 E (fun _ => 0) met ∧ Copies wr A E (es0.take k)) (fun i _ => L0 - (intOf i).toNat)
        case atStart => exact ⟨0, [], _, [], rfl, by omega, rfl, by simp, H2.out, Copies.nil _ _⟩
        case round =>
          obtain ⟨k, E, A, met, rfl, hk, hE, hmet, hst, hcp⟩ := hrel
          have HST := Lib.hid hst
          have HCP := Lib.hid hcp
          clear hst hcp H2
          by_cases hlt : k < L0
          · obtain ⟨x, hx⟩ : ∃ x, es0[k]? = some x := ⟨es0[k]'(by omega), List.getElem?_eq_getElem (by omega)⟩
            obtain ⟨e, vs⟩ := x
            obtain ⟨hwf, hrow, hvwf⟩ := HES0.out _ (List.mem_of_getElem? hx)
            have hsz := HSZ0.out _ (List.mem_of_getElem? hx)
            rcases HC0.out with h0 | ⟨g, o, rfl, hcl⟩
            · omega
            have K0 := HST.out.kept0
            have a0 := K0.cell' (hcl _ _ (flat_get (fun p => Ent.len p.1) es0 k _ hx 0 _ rfl)) (fun h => h)
            have a1 := K0.cell' (hcl _ _ (flat_get (fun p => Ent.len p.1) es0 k _ hx 1 _ rfl)) (fun h => h)
            have a2 := K0.cell' (hcl _ _ (flat_get (fun p => Ent.len p.1) es0 k _ hx 2 _ rfl)) (fun h => h)
            have a3 := K0.cell' (hcl _ _ (flat_get (fun p => Ent.len p.1) es0 k _ hx 3 _ rfl)) (fun h => h)
            have a4 := K0.cell' (hcl _ _ (flat_get (fun p => Ent.len p.1) es0 k _ hx 4 _ rfl)) (fun h => h)
            rw [Nat.add_zero] at a0
            rw [← Nat.add_assoc] at a1 a2 a3 a4
            have HRW := Lib.hid (hrow.kept K0 (fun _ _ h => h))
            have HWF := Lib.hid hwf
            have HVW := Lib.hid hvwf
            have HS1 := Lib.hid hsz
            have HX := Lib.hid hx
            have HONE := Lib.hid (show ∀ u ∈ vs.flatMap Val.cells, u.oneCell' = true from fun u hu => by
              obtain ⟨a, _, ha⟩ := List.mem_flatMap.1 hu
              exact Val.one a u ha)
            clear hrow hwf hvwf K0 hcl hsz hx
            go_wp2_with fail
            refine (push_st e (by first | omega | (simp; omega)) (by omega) HRW.out HONE.out HS1.out HWF.out (by omega) HST.out).mono ?_
            rintro e4 w4 ⟨rfl, v4, h4, ho4, hk4⟩
            have l4 := addMet_len met ⟨e.t, e.k⟩
            have HCP2 := Lib.hid (HCP.out.step HX.out hk4 ho4 HVW.out)
            skip
            have H4 := Lib.hid h4
            clear h4 ho4 hk4 a0 a1 a2 a3 a4 HST
            go_wp2_with fail
            go_roundw
            case rel => exact ⟨k + 1, _, _, _, by go_num, by omega, by simp [hE], by omega, H4.out, HCP2.out⟩
            case measure => simp [intOf]; omega
          · go_wp2_with fail
            obtain rfl : k = L0 := by omega
            have hT : es0.take k = es0 := List.take_of_length_le (by omega)
            rw [hT] at HCP
            refine (save_st n (by omega) (by omega) HST.out).mono ?_
            rintro e3 w3 ⟨rfl, h3, hk3⟩
            have HCP0 := Lib.hid (HCP.out.frame hk3 (fun _ h => h))
            have H3 := Lib.hid h3
            clear h3 hk3 HST HCP
            go_wp2_with fail
            generalize hE0 : E = E0 at *
            clear hE0
            have HE0 := Lib.hid hE
            have hmet0 := hmet
            clear hmet
            go_loopw [10] (fun i wr => ∃ (k1 : Nat) (E : List Ent) (A : Nat → Prop) (met : List Spot), i = .int .i64 k1 ∧ k1 ≤ L1 ∧ E.length = k1 ∧ met.length ≤ k + k1 ∧ St w wr b A 60 (E0 ++ E) (fun j => if j = n then E0.length + 1 else 0) met ∧ Copies wr A E0 es0 ∧ Copies wr A E (es1.take k1)) (fun i _ => L1 - (intOf i).toNat)
            case atStart => exact ⟨0, [], _, _, rfl, by omega, rfl, hmet0, by rw [List.append_nil]; exact H3.out, HCP0.out, Copies.nil _ _⟩
            case round =>
              obtain ⟨k1, E, A1, met1, rfl, hk1, hE1, hmet1, hst, hcp0, hcp⟩ := hrel
              have HST := Lib.hid hst
              have HCP := Lib.hid hcp
              have HCP0 := Lib.hid hcp0
              clear hst hcp hcp0 H3
              by_cases hlt : k1 < L1
              · obtain ⟨x, hx⟩ : ∃ x, es1[k1]? = some x := ⟨es1[k1]'(by omega), List.getElem?_eq_getElem (by omega)⟩
                obtain ⟨e, vs⟩ := x
                obtain ⟨hwf, hrow, hvwf⟩ := HES1.out _ (List.mem_of_getElem? hx)
                have hsz := HSZ1.out _ (List.mem_of_getElem? hx)
                rcases HC1.out with h0 | ⟨g, o, rfl, hcl⟩
                · omega
                have K0 := HST.out.kept0
                have a0 := K0.cell' (hcl _ _ (flat_get (fun p => Ent.len p.1) es1 k1 _ hx 0 _ rfl)) (fun h => h)
                have a1 := K0.cell' (hcl _ _ (flat_get (fun p => Ent.len p.1) es1 k1 _ hx 1 _ rfl)) (fun h => h)
                have a2 := K0.cell' (hcl _ _ (flat_get (fun p => Ent.len p.1) es1 k1 _ hx 2 _ rfl)) (fun h => h)
                have a3 := K0.cell' (hcl _ _ (flat_get (fun p => Ent.len p.1) es1 k1 _ hx 3 _ rfl)) (fun h => h)
                have a4 := K0.cell' (hcl _ _ (flat_get (fun p => Ent.len p.1) es1 k1 _ hx 4 _ rfl)) (fun h => h)
                rw [Nat.add_zero] at a0
                rw [← Nat.add_assoc] at a1 a2 a3 a4
                have HRW := Lib.hid (hrow.kept K0 (fun _ _ h => h))
                have HWF := Lib.hid hwf
                have HVW := Lib.hid hvwf
                have HS1 := Lib.hid hsz
                have HX := Lib.hid hx
                have HONE := Lib.hid (show ∀ u ∈ vs.flatMap Val.cells, u.oneCell' = true from fun u hu => by
                  obtain ⟨a, _, ha⟩ := List.mem_flatMap.1 hu
                  exact Val.one a u ha)
                clear hrow hwf hvwf K0 hcl hsz hx
                go_wp2_with fail
                refine (push_st e (by simp; omega) (by omega) HRW.out HONE.out HS1.out HWF.out (by omega) HST.out).mono ?_
                rintro e4 w4 ⟨rfl, v4, h4, ho4, hk4⟩
                have l4 := addMet_len met1 ⟨e.t, e.k⟩
                have HCP2 := Lib.hid (HCP.out.step HX.out hk4 ho4 HVW.out)
                have HCP02 := Lib.hid (HCP0.out.frame (B := fun j => A1 j ∨ v4.ownBlock = some j) hk4 (fun _ h => .inl h))
                rw [List.append_assoc] at h4
                have H4 := Lib.hid h4
                clear h4 ho4 hk4 a0 a1 a2 a3 a4 HST
                go_wp2_with fail
                go_roundw
                case rel => exact ⟨k1 + 1, _, _, _, by go_num, by omega, by simp [hE1], by omega, H4.out, HCP02.out, HCP2.out⟩
                case measure => simp [intOf]; omega
              · go_wp2_with fail
                obtain rfl : k1 = L1 := by omega
                have hT1 : es1.take k1 = es1 := List.take_of_length_le (by omega)
                rw [hT1] at HCP
                have he0 := HE0.out
                refine (back_as n E0.length (L := k1) (R := E.reverse) (es' := E0) (sv' := fun j => if j = n then E0.length + 1 else 0) (by simp; omega) (by omega) (by simp) (by simp) (by simp; omega) (by simp) (by simp) (by funext j; by_cases h : j = n <;> simp [gone, h]) HST.out).mono ?_
                rintro e5 w5 ⟨ax, cx, rfl, hox, h5, hk5⟩
                have HX := Lib.hid (HCP.out.frame (B := fun j => A1 j ∨ (Value.slice ax k1 cx).ownBlock = some j) hk5 (fun _ h => .inl h))
                have HX0 := Lib.hid (HCP0.out.frame (B := fun j => A1 j ∨ (Value.slice ax k1 cx).ownBlock = some j) hk5 (fun _ h => .inl h))
                have OX := Lib.hid hox
                have H5 := Lib.hid h5
                clear h5 hox hk5 HST HCP HCP0
                go_wp2_with fail
                refine (back_as n E0.length (L := 0) (R := []) (es' := E0) (sv' := fun j => if j = n then E0.length + 1 else 0) (by omega) (by omega) (by simp) (by omega) (by omega) (by simp) (by simp) (by funext j; by_cases h : j = n <;> simp [gone, h]) H5.out).mono ?_
                rintro e6 w6 ⟨ay, cy, rfl, -, h6, hk6⟩
                have HX := Lib.hid (HX.out.frame hk6 (fun _ h => h))
                have HX0 := Lib.hid (HX0.out.frame hk6 (fun _ h => h))
                have OX := Lib.hid (OX.out.kept hk6 (fun g hg ho => ho.2 (.inr hg)))
                have H6 := Lib.hid (h6.weaken (B := fun j => A1 j ∨ (Value.slice ax k1 cx).ownBlock = some j) (fun _ h => .inl h))
                clear h6 hk6 H5
                go_wp2_with fail
                refine (all_as (L := k) (R := E0.reverse) (room' := 60) (by omega) he0 rfl rfl H6.out).mono ?_
                rintro e7 w7 ⟨az, cz, rfl, hoz, h7, hk7⟩
                have HX := Lib.hid (HX.out.frame hk7 (fun _ h => h))
                have HX0 := Lib.hid (HX0.out.frame hk7 (fun _ h => h))
                have OX := Lib.hid (OX.out.kept hk7 (fun g hg ho => ho.2 (.inr hg)))
                have OZ := Lib.hid hoz
                have H7 := Lib.hid h7
                have HK7 := Lib.hid h7.kept0
                clear h7 hk7 hoz H6
                go_wp2_with fail
                refine (backno_st n (.inr (.inr rfl)) H7.out).mono ?_
                rintro e8 w8 ⟨rfl, hw8⟩
                subst hw8
                go_wp2_with fail
                refine (len_st H7.out).mono ?_
                rintro e9 w9 ⟨rfl, h9, hk9⟩
                have H9 := Lib.hid h9
                have HK9 := Lib.hid hk9
                clear h9 hk9 H7
                go_wp2_with fail
                refine (touched_st (by simp) H9.out).mono ?_
                rintro e10 w10 ⟨a10, c10, rfl, -, -, hk10⟩
                have HK9 := Lib.hid (HK9.out.trans hk10 (fun _ h => h.elim))
                clear hk10 H9
                have hE1' := hE1
                go_wp2_with fail
                go_loopw [18] (fun i wr => ∃ (j : Nat), i = .int .i64 j ∧ j ≤ k1 ∧ Kept (fun _ => False) w8 wr) (fun i _ => k1 - (intOf i).toNat)
                case atStart => exact ⟨0, rfl, by omega, HK9.out⟩
                case round =>
                  obtain ⟨j, rfl, hj, hk⟩ := hrel
                  have HK := Lib.hid hk
                  clear hk
                  by_cases hlt : j < k1
                  · obtain ⟨q, hq⟩ : ∃ q : Nat, q + 1 + j = k1 := ⟨k1 - 1 - j, by omega⟩
                    have hqi : (k1 : Int) - 1 - (j : Int) = (q : Int) := by omega
                    have hqL : q < k1 := by omega
                    obtain ⟨x, hx⟩ : ∃ x, es1[q]? = some x := ⟨es1[q]'(by omega), List.getElem?_eq_getElem (by omega)⟩
                    obtain ⟨e2, he2⟩ : ∃ e, E[q]? = some e := ⟨E[q]'(by omega), List.getElem?_eq_getElem (by omega)⟩
                    obtain ⟨e, vs⟩ := x
                    obtain ⟨ct, ck, cr, -⟩ := HX.out.2 q e2 _ he2 hx
                    obtain ⟨hwf, hrow⟩ := HES1.out _ (List.mem_of_getElem? hx)
                    rcases HC1.out with h0 | ⟨g, o, rfl, hcl⟩
                    · omega
                    have hre : E.reverse[j]? = some e2 := by rw [List.getElem?_reverse (by omega), ← he2]; congr 1; omega
                    have K0 := HK7.out.trans HK.out (fun _ h => h.elim)
                    have OT := OX.out.kept HK.out (fun _ _ h => h)
                    obtain ⟨gx, cp, ex, -⟩ := OT.form (by omega)
                    rw [ex] at OT
                    have hgx := OT.lt gx rfl
                    have b0 := OT.cells _ _ (flat_get Ent.len _ j _ hre 0 _ rfl)
                    have b1 := OT.cells _ _ (flat_get Ent.len _ j _ hre 1 _ rfl)
                    have b2 := OT.cells _ _ (flat_get Ent.len _ j _ hre 2 _ rfl)
                    have b3 := OT.cells _ _ (flat_get Ent.len _ j _ hre 3 _ rfl)
                    have b4 := OT.cells _ _ (flat_get Ent.len _ j _ hre 4 _ rfl)
                    have a0 := K0.cell' (hcl _ _ (flat_get (fun p => Ent.len p.1) es1 q _ hx 0 _ rfl)) (fun h => h)
                    have a1 := K0.cell' (hcl _ _ (flat_get (fun p => Ent.len p.1) es1 q _ hx 1 _ rfl)) (fun h => h)
                    have a2 := K0.cell' (hcl _ _ (flat_get (fun p => Ent.len p.1) es1 q _ hx 2 _ rfl)) (fun h => h)
                    have a3 := K0.cell' (hcl _ _ (flat_get (fun p => Ent.len p.1) es1 q _ hx 3 _ rfl)) (fun h => h)
                    have a4 := K0.cell' (hcl _ _ (flat_get (fun p => Ent.len p.1) es1 q _ hx 4 _ rfl)) (fun h => h)
                    rw [Nat.add_zero] at a0 b0
                    rw [← Nat.add_assoc] at a1 a2 a3 a4
                    rw [ct] at b0
                    rw [ck] at b1 b2 b3
                    have hev : e.was.oneCell' = true := hrow.1.oneV
                    have KA : Kept (fun _ => False) wr (wr.alloc (.cells #[.int .i64 e.t, .bool e.k.t, .int .i64 e.k.n, .string e.k.s, e.was] 27)) := (Kept.refl _ _).alloc _
                    have R1 := Lib.hid ((cr.kept HK.out (fun _ _ h => h)).kept KA (fun _ _ h => h))
                    have R2 := Lib.hid ((hrow.kept K0 (fun _ _ h => h)).kept KA (fun _ _ h => h))
                    have HKN := Lib.hid (HK.out.trans KA (fun _ h => h.elim))
                    rw [ex]
                    clear ct ck cr hwf hrow hcl hre K0 OT hx he2 KA
                    go_wp2_with fail
                    go_quiet (exact Calls.quiet_of (same_ok (R1.out.drewN _) (R2.out.drewN _)))
                    go_wp2_with fail
                    go_roundw
                    case rel => exact ⟨j + 1, by go_num, by omega, HKN.out.drewN _⟩
                    case measure => simp [intOf]; omega
                  · go_wp2_with fail
                    have HKL := HK
                    clear HK
                    go_loopw [20] (fun i wr => ∃ (j : Nat), i = .int .i64 j ∧ j ≤ k ∧ Kept (fun _ => False) w8 wr) (fun i _ => k - (intOf i).toNat)
                    case atStart => exact ⟨0, rfl, by omega, HKL.out⟩
                    case round =>
                      obtain ⟨j, rfl, hj, hk⟩ := hrel
                      have HK := Lib.hid hk
                      clear hk
                      by_cases hlt : j < k
                      · obtain ⟨q, hq⟩ : ∃ q : Nat, q + 1 + j = k := ⟨k - 1 - j, by omega⟩
                        have hqi : (k : Int) - 1 - (j : Int) = (q : Int) := by omega
                        have hqL : q < k := by omega
                        obtain ⟨x, hx⟩ : ∃ x, es0[q]? = some x := ⟨es0[q]'(by omega), List.getElem?_eq_getElem (by omega)⟩
                        obtain ⟨e2, he2⟩ : ∃ e, E0[q]? = some e := ⟨E0[q]'(by omega), List.getElem?_eq_getElem (by omega)⟩
                        obtain ⟨e, vs⟩ := x
                        obtain ⟨ct, ck, cr, -⟩ := HX0.out.2 q e2 _ he2 hx
                        obtain ⟨hwf, hrow⟩ := HES0.out _ (List.mem_of_getElem? hx)
                        rcases HC0.out with h0 | ⟨g, o, rfl, hcl⟩
                        · omega
                        have hre : E0.reverse[j]? = some e2 := by rw [List.getElem?_reverse (by omega), ← he2]; congr 1; omega
                        have K0 := HK7.out.trans HK.out (fun _ h => h.elim)
                        have OT := OZ.out.kept HK.out (fun _ _ h => h)
                        obtain ⟨gx, cp, ex, -⟩ := OT.form (by omega)
                        rw [ex] at OT
                        have hgx := OT.lt gx rfl
                        have b0 := OT.cells _ _ (flat_get Ent.len _ j _ hre 0 _ rfl)
                        have b1 := OT.cells _ _ (flat_get Ent.len _ j _ hre 1 _ rfl)
                        have b2 := OT.cells _ _ (flat_get Ent.len _ j _ hre 2 _ rfl)
                        have b3 := OT.cells _ _ (flat_get Ent.len _ j _ hre 3 _ rfl)
                        have b4 := OT.cells _ _ (flat_get Ent.len _ j _ hre 4 _ rfl)
                        have a0 := K0.cell' (hcl _ _ (flat_get (fun p => Ent.len p.1) es0 q _ hx 0 _ rfl)) (fun h => h)
                        have a1 := K0.cell' (hcl _ _ (flat_get (fun p => Ent.len p.1) es0 q _ hx 1 _ rfl)) (fun h => h)
                        have a2 := K0.cell' (hcl _ _ (flat_get (fun p => Ent.len p.1) es0 q _ hx 2 _ rfl)) (fun h => h)
                        have a3 := K0.cell' (hcl _ _ (flat_get (fun p => Ent.len p.1) es0 q _ hx 3 _ rfl)) (fun h => h)
                        have a4 := K0.cell' (hcl _ _ (flat_get (fun p => Ent.len p.1) es0 q _ hx 4 _ rfl)) (fun h => h)
                        rw [Nat.add_zero] at a0 b0
                        rw [← Nat.add_assoc] at a1 a2 a3 a4
                        rw [ct] at b0
                        rw [ck] at b1 b2 b3
                        have hev : e.was.oneCell' = true := hrow.1.oneV
                        have KA : Kept (fun _ => False) wr (wr.alloc (.cells #[.int .i64 e.t, .bool e.k.t, .int .i64 e.k.n, .string e.k.s, e.was] 27)) := (Kept.refl _ _).alloc _
                        have R1 := Lib.hid ((cr.kept HK.out (fun _ _ h => h)).kept KA (fun _ _ h => h))
                        have R2 := Lib.hid ((hrow.kept K0 (fun _ _ h => h)).kept KA (fun _ _ h => h))
                        have HKN := Lib.hid (HK.out.trans KA (fun _ h => h.elim))
                        rw [ex]
                        clear ct ck cr hwf hrow hcl hre K0 OT hx he2 KA
                        go_wp2_with fail
                        go_quiet (exact Calls.quiet_of (same_ok (R1.out.drewN _) (R2.out.drewN _)))
                        go_wp2_with fail
                        go_roundw
                        case rel => exact ⟨j + 1, by go_num, by omega, HKN.out.drewN _⟩
                        case measure => simp [intOf]; omega
                      · go_wp2_with fail
                        go_ret
                        exact ⟨rfl, HK7.out.trans HK.out (fun _ h => h.elim)⟩
end Go.Proofs.Ytokcpmeoiblpfaa
