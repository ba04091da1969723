/- Nobody waits whose wanted thing is free (the law FifoMoves). -/
import Derived.Test.YtkdinhlmghfpeaaGreatDoorJ48
import Derived.Test.YtkdinhlmghfpeaaGreatDoorJ35
namespace Go.Proofs.YtkdinhlmghfpeaaGreatDoor
open Go.ChangeShapes Go.WideShapes Go.ChangeAt Go.RowKit
set_option maxRecDepth 100000
set_option linter.unusedSimpArgs false

theorem doneA_stuck {Q : Qm Clm} (h : Stuck RC Q ∧ AllE (fun _ c => clmPlain c = true) Q) (a : ActE) (ha : clmPlain a.x.c = true) : Stuck RC (doneA Q a) ∧ AllE (fun _ c => clmPlain c = true) (doneA Q a) := by
  unfold doneA doneQ
  split
  · exact ⟨ask_stuck RC_ok h.1 h.2 _ _ _ ha, ask_all h.2 _ _ _ ha (fun x hx => plain_join hx ha)⟩
  · split
    · exact ⟨ask_stuck RC_ok h.1 h.2 _ _ _ ha, ask_all h.2 _ _ _ ha (fun x hx => plain_join hx ha)⟩
    · split
      · exact ⟨moved_Stuck _, leave_all h.2 _⟩
      · split
        · exact ⟨moved_Stuck _, drop_all h.2 _⟩
        · exact ⟨moved_Stuck _, drop_all h.2 _⟩
theorem runQ_stuck (l : List ActE) (hl : ∀ a ∈ l, clmPlain a.x.c = true) : Stuck RC (runQ l) :=
  (runQ_ind (P := fun _ Q => Stuck RC Q ∧ AllE (fun _ c => clmPlain c = true) Q) ⟨fun i e he => (by simp at he), ⟨fun e he => (by cases he), fun e he => (by cases he)⟩⟩ (fun n Q a ha h => by
    unfold stepQ
    split
    · exact doneA_stuck h a (hl a ha)
    · exact h)).1
/-- numbers that are one's own: one of them, as a world has it -/
theorem intAtN {w : World} {v : Value} {ds : List Int} {k : Nat} {d : Int} (h : IntsRd w v ds) (hd : ds[k]? = some d) : ∃ g o c, v = .slice (some ⟨g, o, none⟩) ds.length c ∧ w.cell? ⟨g, o + k, none⟩ = some (.int .i64 d) := by
  obtain ⟨_, _, a, c, rfl, _, _, _, hc⟩ := h
  have hlt := (List.getElem?_eq_some_iff.1 hd).1
  rcases hc with h0 | ⟨g, o, rfl, hc⟩
  · omega
  · exact ⟨g, o, c, rfl, hc k _ (by rw [List.getElem?_map, hd]; rfl)⟩
def cntQ (Q : Qm Clm) (k : Nat) : Nat := (Q.held.filter (ltE (k : Int))).length + (Q.waits.filter (ltE (k : Int))).length
theorem cntQ_succ {Q : Qm Clm} (h : QOk Q) (k : Nat) : cntQ Q (k + 1) = cntQ Q k + (holdsQ Q k).length + (if (waitsQ Q k).2 = true then 1 else 0) := by
  unfold cntQ holdsQ
  rw [wait_lt h k, List.length_map, show ((k + 1 : Nat) : Int) = (k : Int) + 1 by omega, ltE_succ]
  omega
theorem cntQ_zero {n : Nat} {Q : Qm Clm} (h : ScOk n Q) : cntQ Q 0 = 0 := by
  unfold cntQ
  rw [wait_zero h, ltE_none (fun e he => by have := (h.all.1 e he).1.1; simpa using this)]
  rfl
theorem cntQ_eight {n : Nat} {Q : Qm Clm} (h : ScOk n Q) : cntQ Q 8 = Q.held.length + Q.waits.length := by
  unfold cntQ
  rw [wait_eight h, ltE_all (fun e he => by have := (h.all.1 e he).1.2; show e.o < ((8 : Nat) : Int); omega)]
theorem cntQ_le {n : Nat} {Q : Qm Clm} (h : ScOk n Q) (k : Nat) : cntQ Q k ≤ n := by
  have h1 := List.length_filter_le (ltE (k : Int)) Q.held
  have h2 := List.length_filter_le (ltE (k : Int)) Q.waits
  have := h.len
  unfold cntQ
  omega
theorem holdsQ_le {n : Nat} {Q : Qm Clm} (h : ScOk n Q) (o : Int) : (holdsQ Q o).length ≤ n := by
  unfold holdsQ
  rw [List.length_map]
  have h1 := List.length_filter_le (ofE o) Q.held
  have := h.len
  omega
set_option maxHeartbeats 16000000 in
theorem movesLaw_ok {W : World} {v : Value} {acts : List ActE} (tb : EnvD (heapOf W)) (hv : ActsRd W v acts) :
    Calls Tryz.prog 7 #[v] W fun r w' => r = .returned (.bool true) ∧ Kept (fun _ => False) W w' := by
  obtain ⟨D, hD⟩ : ∃ D, heapOf W = D := ⟨_, rfl⟩
  have HV := Lib.hid (show ActsD D v acts by rw [← hD]; exact ActsD.of_rd hv)
  have HE := Lib.hid (show EnvD D by rw [← hD]; exact tb)
  have HAW := Lib.hid (awake_ok HE.out (show Sat W D W [] by rw [← hD]; exact Sat.start W))
  have HEND := Lib.hid (show ∀ (D' : PH) (w' : World), PH.le D D' → Sat W D' w' [] → Kept (fun _ => False) W w' from fun D' w' hle hs => hs.end_ (by rw [hD]; exact hle))
  obtain ⟨a, c, rfl, hN⟩ := HV.out.shape
  clear hv tb hD
  go_enter Tryz.func7, Tryz.ntmps7
  go_upto_region 4 with (go_at_call 11; refine HAW.out.mono ?_; rintro e1 w1 ⟨rfl, hs1⟩; have HS1 := Lib.hid hs1; clear hs1 HAW)
  go_wp2_with fail
  go_loopw [4] (fun ii wr => ∃ j : Nat, ii = .int .i64 j ∧ j ≤ acts.length ∧ (∀ x ∈ acts.take j, clmPlain x.x.c = true) ∧ Sat W D wr []) (fun ii _ => acts.length - (intOf ii).toNat)
  case atStart => exact ⟨0, rfl, Nat.zero_le _, fun x hx => by simp at hx, HS1.out⟩
  case round =>
    obtain ⟨j, rfl, hj, hpl, hs⟩ := hrel
    have HS := Lib.hid hs
    have HPL := Lib.hid hpl
    clear hs hpl HS1
    by_cases hlt : j < acts.length
    · have hji : (j : Int) < (acts.length : Int) := by omega
      obtain ⟨x, hx⟩ : ∃ x, acts[j]? = some x := ⟨acts[j]'hlt, List.getElem?_eq_getElem _⟩
      obtain ⟨g, og, hg, _, hr2, hok, _⟩ := actAt HV.out HS.out rfl hx
      subst hg
      have HL := Lib.hid (loadCl hr2)
      have HP := Lib.hid (plain_ok (hok.rd HS.out))
      have HX := Lib.hid hx
      clear hx hr2 hok
      cases hp : clmPlain x.x.c
      all_goals
        rw [hp] at HP
        have HPX := Lib.hid hp
        clear hp
        go_wp2_with (first | (refine wpList_ld rfl _ _ rfl _ _ rfl _ HL.out ?_) | (go_at_call 21; refine HP.out.mono ?_; rintro e5 w5 ⟨rfl, hk5⟩; have HS5 := Lib.hid (HS.out.kept hk5); clear hk5 HS HP HL))
      · go_ret
        exact ⟨rfl, HEND.out D _ (PH.le.refl _) HS5.out⟩
      · go_roundw
        case rel => exact ⟨j + 1, by go_num, by omega, fun y hy => by
          rw [List.take_add_one, HX.out] at hy
          rcases List.mem_append.1 hy with hy | hy
          · exact HPL.out y hy
          · simp at hy; rw [hy]; exact HPX.out, HS5.out⟩
        case measure => simp [intOf]; omega
    · have hji : ¬ ((j : Int) < (acts.length : Int)) := by omega
      have HST := Lib.hid (runQ_stuck (acts.take 40) (fun y hy => HPL.out y (by rw [List.take_of_length_le (by omega)]; exact List.mem_of_mem_take hy)))
      have HB := Lib.hid (behind_ok HE.out HV.out HS.out)
      clear HS HPL
      go_upto_region 11 with (go_at_call 22; refine HB.out.mono ?_; rintro e2 w2 ⟨q, D1, rfl, hle, hs2⟩; have HLE := Lib.hid hle; have HS2 := Lib.hid hs2; clear hle hs2 HB)
      have HSC := Lib.hid ((runQ_sc (l := acts.take 40) (fun y hy => (HV.out.2 y (List.mem_of_mem_take hy)).2)).mono (show (acts.take 40).length ≤ 40 by rw [List.length_take]; omega))
      have hlen := HSC.out.len
      have HED := Lib.hid (HE.out.mono HLE.out)
      generalize runQ (acts.take 40) = Q at *
      have hh : Q.held.length ≤ 100000 := by omega
      have hM : Q.held.length + Q.waits.length ≤ 100000 := by omega
      have hM2 : Q.held.length + Q.waits.length ≤ 1000000 := by omega
      clear hji
      have HLN := Lib.hid (fun (w : World) (hs : Sat W D1 w [queC D1 q Q]) => Len_C hM2 hs)
      go_wp2_with fail
      go_loopw [7, 8] (fun mm ii wr => ∃ (k : Nat) (m : Int), ii = .int .i64 k ∧ mm = .int .i64 m ∧ k ≤ 8 ∧ m = (cntQ Q k : Nat) ∧ Sat W D1 wr [queC D1 q Q]) (fun _ ii _ => 8 - (intOf ii).toNat)
      case atStart => exact ⟨0, 0, rfl, rfl, by omega, by rw [cntQ_zero HSC.out]; rfl, HS2.out⟩
      case round =>
        obtain ⟨k, m, rfl, rfl, hk, hm, hs⟩ := hrel
        have HM := Lib.hid hm
        have HS3 := Lib.hid hs
        have hm40 : 0 ≤ m ∧ m ≤ 40 := by have := cntQ_le HSC.out k; omega
        clear hs hm HS2
        by_cases hk8 : k < 8
        · have hkk : (k : Int) < 8 := by omega
          have HH := Lib.hid (Holds_C (k : Int) hh HS3.out)
          have hhl := holdsQ_le HSC.out (k : Int)
          have HCS := Lib.hid (cntQ_succ HSC.out.ok k)
          have HBS := Lib.hid (block_stuck HST.out (k : Int))
          clear HS3
          go_upto_region 16 with (go_at_call 23; refine HH.out.mono ?_; rintro e5 w5 ⟨v5, rfl, hs5⟩; obtain ⟨cs, hcm, _, hs6⟩ := clmsOpen hs5; have hcl := congrArg List.length hcm; rw [List.length_map] at hcl; obtain ⟨a5, c5, rfl⟩ := hs6.own_shape; have hcl2 : cs.length ≤ 40 := (by omega); rw [← hcl] at HCS; have hw1 : IntKind.i64.wrap (m + (cs.length : Int)) = m + (cs.length : Int) := (IntWalk.i64_in _ (by omega)); have HS5 := Lib.hid hs5.drop; clear hcm hcl hs5 hs6 hhl HH)
          have HWA := Lib.hid (Waits_C (k : Int) HS5.out)
          clear HS5
          go_upto_region 17 with (first | (go_at_call 29; refine HWA.out.mono ?_; rintro e6 w6 ⟨z, rfl, _, _, hs6⟩; have HS6 := Lib.hid ((hs6.alloc z.cells.toArray tCl).drop); clear hs6 HWA) | (refine wpList_store_new rfl _ _ _ rfl z.cells _ _ rfl rfl (by kernel_rfl) rfl (ClmE.one _) ?_))
          have HBL := Lib.hid (Blockers_C (k : Int) HED.out hM HS6.out)
          clear HS6
          go_upto_region 18 with (go_at_call 34; refine HBL.out.mono ?_; rintro e7 w7 ⟨v7, rfl, hs7⟩; obtain ⟨a7, c7, rfl⟩ := hs7.own_shape; have HS7 := Lib.hid hs7; clear hs7 HBL)
          have HRI := Lib.hid (putAll_rise (blockL RC Q (k : Int)))
          have HSE := Lib.hid (fun (p : Int) (hp : p ∈ putAll (blockL RC Q (k : Int))) => block_self ((putAll_mem _ p).1 hp))
          have HNI := Lib.hid (show putAll (blockL RC Q (k : Int)) = [] ↔ ¬ ((waitAt Q.waits (k : Int)).isSome = true) by rw [putAll_nil, ← HBS.out]; simp)
          have HWS := Lib.hid (waitsQ_snd Q (k : Int))
          have hbl := (HS7.out.own 0 rfl).rd.2.1
          unfold maxLen at hbl
          generalize putAll (blockL RC Q (k : Int)) = bs at *
          clear HBS
          cases hwt : (waitsQ Q (k : Int)).2
          focus
            have HBE := Lib.hid (HNI.out.2 (by rw [← HWS.out, hwt]; simp))
            have hg : decide (0 < bs.length) = false := by rw [HBE.out]; rfl
            have HMK := Lib.hid (show m + (cs.length : Int) = (cntQ Q (k + 1) : Nat) by rw [HCS.out, hwt, HM.out]; simp)
            go_upto_region 22 with fail
            clear hg
            generalize m + (cs.length : Int) = m2 at *
            clear hw1
          rotate_left
          focus
            have hg : decide (0 < bs.length) = true := by
              have : bs ≠ [] := fun h => by have := HNI.out.1 h; rw [← HWS.out, hwt] at this; simp at this
              exact decide_eq_true (List.length_pos_iff.2 this)
            have hw2 : IntKind.i64.wrap (m + (cs.length : Int) + 1) = m + (cs.length : Int) + 1 := IntWalk.i64_in _ (by omega)
            have HMK := Lib.hid (show m + (cs.length : Int) + 1 = (cntQ Q (k + 1) : Nat) by rw [HCS.out, hwt, HM.out]; simp)
            go_upto_region 22 with fail
            clear hg hw1
            generalize m + (cs.length : Int) + 1 = m2 at *
            clear hw2
          rotate_left
          all_goals
            clear hwt HCS HNI HWS
            go_wp2_with fail
            go_loopw [12] (fun ii wr => ∃ i : Nat, ii = .int .i64 i ∧ i ≤ bs.length ∧ Sat W D1 wr [intsP (.slice a7 bs.length c7) bs, queC D1 q Q]) (fun ii _ => bs.length - (intOf ii).toNat)
            case atStart => exact ⟨0, rfl, by omega, HS7.out⟩
            case round =>
              obtain ⟨i, rfl, hi, hs⟩ := hrel
              have HS8 := Lib.hid hs
              clear hs HS7
              by_cases hil : i < bs.length
              · have hii : (i : Int) < (bs.length : Int) := by omega
                obtain ⟨d, hd⟩ : ∃ d, bs[i]? = some d := ⟨bs[i]'hil, List.getElem?_eq_getElem _⟩
                obtain ⟨g, og, cc, hva, hcell⟩ := intAtN (HS8.out.own 0 rfl).rd hd
                have hva1 := (Value.slice.inj hva).1
                subst hva1
                have he1 : (d == (k : Int)) = false := by have := HSE.out d (List.mem_of_getElem? hd); simpa using this
                by_cases hi0 : i = 0
                · subst hi0
                  have hcell0 : wr.cell? ⟨g, og, none⟩ = some (.int .i64 d) := hcell
                  clear hd hva hcell
                  go_upto_region 25 with fail
                  refine wp_region_canon [(0, false, 999), (1, false, 999), (2, false, 999), (3, false, 999), (4, false, 999), (5, false, 999), (6, false, 999), (7, false, 999), (8, false, 999), (9, false, 999), (10, false, 999), (11, false, 999), (12, false, 999), (13, false, 999), (14, false, 999), (15, false, 999), (16, false, 999), (17, false, 999), (18, false, 999), (19, false, 999), (20, false, 999), (21, false, 999)] (by kernel_rfl) (by kernel_rfl) ?_
                  iterate 7 (refine wpCan_read rfl rfl (fun K hK => ?_); go_simp; refine hK _ ?_; clear hK K)
                  first | (refine wpCan_no rfl rfl ?_; simp only [Act.put, List.setIfInBounds_toArray, List.set_cons_succ, List.set_cons_zero, List.getElem_toArray, List.getElem_cons_succ, List.getElem_cons_zero]) | (refine wpCan_yes rfl rfl (fun K hK => ?_); go_simp; refine hK _ ?_; clear hK K)
                  first | (refine wpCan_no rfl rfl ?_; simp only [Act.put, List.setIfInBounds_toArray, List.set_cons_succ, List.set_cons_zero, List.getElem_toArray, List.getElem_cons_succ, List.getElem_cons_zero]) | (refine wpCan_yes rfl rfl (fun K hK => ?_); go_simp; refine hK _ ?_; clear hK K)
                  first | (refine wpCan_no rfl rfl ?_; simp only [Act.put, List.setIfInBounds_toArray, List.set_cons_succ, List.set_cons_zero, List.getElem_toArray, List.getElem_cons_succ, List.getElem_cons_zero]) | (refine wpCan_yes rfl rfl (fun K hK => ?_); go_simp; refine hK _ ?_; clear hK K)
                  first | (refine wpCan_no rfl rfl ?_; simp only [Act.put, List.setIfInBounds_toArray, List.set_cons_succ, List.set_cons_zero, List.getElem_toArray, List.getElem_cons_succ, List.getElem_cons_zero]) | (refine wpCan_yes rfl rfl (fun K hK => ?_); go_simp; refine hK _ ?_; clear hK K)
                  first | (refine wpCan_no rfl rfl ?_; simp only [Act.put, List.setIfInBounds_toArray, List.set_cons_succ, List.set_cons_zero, List.getElem_toArray, List.getElem_cons_succ, List.getElem_cons_zero]) | (refine wpCan_yes rfl rfl (fun K hK => ?_); go_simp; refine hK _ ?_; clear hK K)
                  first | (refine wpCan_no rfl rfl ?_; simp only [Act.put, List.setIfInBounds_toArray, List.set_cons_succ, List.set_cons_zero, List.getElem_toArray, List.getElem_cons_succ, List.getElem_cons_zero]) | (refine wpCan_yes rfl rfl (fun K hK => ?_); go_simp; refine hK _ ?_; clear hK K)
                  first | (refine wpCan_no rfl rfl ?_; simp only [Act.put, List.setIfInBounds_toArray, List.set_cons_succ, List.set_cons_zero, List.getElem_toArray, List.getElem_cons_succ, List.getElem_cons_zero]) | (refine wpCan_yes rfl rfl (fun K hK => ?_); go_simp; refine hK _ ?_; clear hK K)
                  first | (refine wpCan_no rfl rfl ?_; simp only [Act.put, List.setIfInBounds_toArray, List.set_cons_succ, List.set_cons_zero, List.getElem_toArray, List.getElem_cons_succ, List.getElem_cons_zero]) | (refine wpCan_yes rfl rfl (fun K hK => ?_); go_simp; refine hK _ ?_; clear hK K)
                  first | (refine wpCan_no rfl rfl ?_; simp only [Act.put, List.setIfInBounds_toArray, List.set_cons_succ, List.set_cons_zero, List.getElem_toArray, List.getElem_cons_succ, List.getElem_cons_zero]) | (refine wpCan_yes rfl rfl (fun K hK => ?_); go_simp; refine hK _ ?_; clear hK K)
                  first | (refine wpCan_no rfl rfl ?_; simp only [Act.put, List.setIfInBounds_toArray, List.set_cons_succ, List.set_cons_zero, List.getElem_toArray, List.getElem_cons_succ, List.getElem_cons_zero]) | (refine wpCan_yes rfl rfl (fun K hK => ?_); go_simp; refine hK _ ?_; clear hK K)
                  first | (refine wpCan_no rfl rfl ?_; simp only [Act.put, List.setIfInBounds_toArray, List.set_cons_succ, List.set_cons_zero, List.getElem_toArray, List.getElem_cons_succ, List.getElem_cons_zero]) | (refine wpCan_yes rfl rfl (fun K hK => ?_); go_simp; refine hK _ ?_; clear hK K)
                  first | (refine wpCan_no rfl rfl ?_; simp only [Act.put, List.setIfInBounds_toArray, List.set_cons_succ, List.set_cons_zero, List.getElem_toArray, List.getElem_cons_succ, List.getElem_cons_zero]) | (refine wpCan_yes rfl rfl (fun K hK => ?_); go_simp; refine hK _ ?_; clear hK K)
                  first | (refine wpCan_no rfl rfl ?_; simp only [Act.put, List.setIfInBounds_toArray, List.set_cons_succ, List.set_cons_zero, List.getElem_toArray, List.getElem_cons_succ, List.getElem_cons_zero]) | (refine wpCan_yes rfl rfl (fun K hK => ?_); go_simp; refine hK _ ?_; clear hK K)
                  first | (refine wpCan_no rfl rfl ?_; simp only [Act.put, List.setIfInBounds_toArray, List.set_cons_succ, List.set_cons_zero, List.getElem_toArray, List.getElem_cons_succ, List.getElem_cons_zero]) | (refine wpCan_yes rfl rfl (fun K hK => ?_); go_simp; refine hK _ ?_; clear hK K)
                  iterate 1 (refine wpCan_read rfl rfl (fun K hK => ?_); go_simp; refine hK _ ?_; clear hK K)
                  refine wpCan_nil ?_
                  go_wp2_with fail
                  go_roundw
                  case rel => exact ⟨0 + 1, by go_num, by omega, HS8.out.drew⟩
                  case measure => simp [intOf]; omega
                · obtain ⟨i0, rfl⟩ : ∃ i0, i = i0 + 1 := ⟨i - 1, by omega⟩
                  obtain ⟨p, hp⟩ : ∃ p, bs[i0]? = some p := ⟨bs[i0]'(by omega), List.getElem?_eq_getElem _⟩
                  obtain ⟨g2, og2, cc2, hva2, hcell2⟩ := intAtN (HS8.out.own 0 rfl).rd hp
                  cases hva2
                  have hlt3 : p < d := by
                    obtain ⟨h1, rfl⟩ := List.getElem?_eq_some_iff.1 hp
                    obtain ⟨h2, rfl⟩ := List.getElem?_eq_some_iff.1 hd
                    exact List.pairwise_iff_getElem.1 HRI.out i0 (i0 + 1) h1 h2 (by omega)
                  have hle3 : ¬ (d ≤ p) := by omega
                  have hpos : (0 : Int) < (i0 : Int) + 1 := by omega
                  have hnn : (0 : Int) ≤ (i0 : Int) + 1 := by omega
                  have hii2 : (i0 : Int) + 1 < (bs.length : Int) := by omega
                  have hii3 : (i0 : Int) < (bs.length : Int) := by omega
                  have hw0 : IntKind.i64.wrap (i0 : Int) = (i0 : Int) := IntWalk.i64_in _ (by omega)
                  have hsub : IntKind.i64.wrap (((i0 + 1 : Nat) : Int) - 1) = (i0 : Int) := by rw [IntWalk.i64_in _ (by omega)]; omega
                  clear hd hva hp hlt3
                  go_upto_region 25 with fail
                  refine wp_region_canon [(0, false, 999), (1, false, 999), (2, false, 999), (3, false, 999), (4, false, 999), (5, false, 999), (6, false, 999), (7, false, 999), (8, false, 999), (9, false, 999), (10, false, 999), (11, false, 999), (12, false, 999), (13, false, 999), (14, false, 999), (15, false, 999), (16, false, 999), (17, false, 999), (18, false, 999), (19, false, 999), (20, false, 999), (21, false, 999)] (by kernel_rfl) (by kernel_rfl) ?_
                  iterate 7 (refine wpCan_read rfl rfl (fun K hK => ?_); go_simp; refine hK _ ?_; clear hK K)
                  first | (refine wpCan_no rfl rfl ?_; simp only [Act.put, List.setIfInBounds_toArray, List.set_cons_succ, List.set_cons_zero, List.getElem_toArray, List.getElem_cons_succ, List.getElem_cons_zero]) | (refine wpCan_yes rfl rfl (fun K hK => ?_); go_simp; refine hK _ ?_; clear hK K)
                  first | (refine wpCan_no rfl rfl ?_; simp only [Act.put, List.setIfInBounds_toArray, List.set_cons_succ, List.set_cons_zero, List.getElem_toArray, List.getElem_cons_succ, List.getElem_cons_zero]) | (refine wpCan_yes rfl rfl (fun K hK => ?_); go_simp; refine hK _ ?_; clear hK K)
                  first | (refine wpCan_no rfl rfl ?_; simp only [Act.put, List.setIfInBounds_toArray, List.set_cons_succ, List.set_cons_zero, List.getElem_toArray, List.getElem_cons_succ, List.getElem_cons_zero]) | (refine wpCan_yes rfl rfl (fun K hK => ?_); go_simp; refine hK _ ?_; clear hK K)
                  first | (refine wpCan_no rfl rfl ?_; simp only [Act.put, List.setIfInBounds_toArray, List.set_cons_succ, List.set_cons_zero, List.getElem_toArray, List.getElem_cons_succ, List.getElem_cons_zero]) | (refine wpCan_yes rfl rfl (fun K hK => ?_); go_simp; refine hK _ ?_; clear hK K)
                  first | (refine wpCan_no rfl rfl ?_; simp only [Act.put, List.setIfInBounds_toArray, List.set_cons_succ, List.set_cons_zero, List.getElem_toArray, List.getElem_cons_succ, List.getElem_cons_zero]) | (refine wpCan_yes rfl rfl (fun K hK => ?_); go_simp; refine hK _ ?_; clear hK K)
                  first | (refine wpCan_no rfl rfl ?_; simp only [Act.put, List.setIfInBounds_toArray, List.set_cons_succ, List.set_cons_zero, List.getElem_toArray, List.getElem_cons_succ, List.getElem_cons_zero]) | (refine wpCan_yes rfl rfl (fun K hK => ?_); go_simp; refine hK _ ?_; clear hK K)
                  first | (refine wpCan_no rfl rfl ?_; simp only [Act.put, List.setIfInBounds_toArray, List.set_cons_succ, List.set_cons_zero, List.getElem_toArray, List.getElem_cons_succ, List.getElem_cons_zero]) | (refine wpCan_yes rfl rfl (fun K hK => ?_); go_simp; refine hK _ ?_; clear hK K)
                  first | (refine wpCan_no rfl rfl ?_; simp only [Act.put, List.setIfInBounds_toArray, List.set_cons_succ, List.set_cons_zero, List.getElem_toArray, List.getElem_cons_succ, List.getElem_cons_zero]) | (refine wpCan_yes rfl rfl (fun K hK => ?_); go_simp; refine hK _ ?_; clear hK K)
                  first | (refine wpCan_no rfl rfl ?_; simp only [Act.put, List.setIfInBounds_toArray, List.set_cons_succ, List.set_cons_zero, List.getElem_toArray, List.getElem_cons_succ, List.getElem_cons_zero]) | (refine wpCan_yes rfl rfl (fun K hK => ?_); go_simp; refine hK _ ?_; clear hK K)
                  first | (refine wpCan_no rfl rfl ?_; simp only [Act.put, List.setIfInBounds_toArray, List.set_cons_succ, List.set_cons_zero, List.getElem_toArray, List.getElem_cons_succ, List.getElem_cons_zero]) | (refine wpCan_yes rfl rfl (fun K hK => ?_); go_simp; refine hK _ ?_; clear hK K)
                  first | (refine wpCan_no rfl rfl ?_; simp only [Act.put, List.setIfInBounds_toArray, List.set_cons_succ, List.set_cons_zero, List.getElem_toArray, List.getElem_cons_succ, List.getElem_cons_zero]) | (refine wpCan_yes rfl rfl (fun K hK => ?_); go_simp; refine hK _ ?_; clear hK K)
                  first | (refine wpCan_no rfl rfl ?_; simp only [Act.put, List.setIfInBounds_toArray, List.set_cons_succ, List.set_cons_zero, List.getElem_toArray, List.getElem_cons_succ, List.getElem_cons_zero]) | (refine wpCan_yes rfl rfl (fun K hK => ?_); go_simp; refine hK _ ?_; clear hK K)
                  first | (refine wpCan_no rfl rfl ?_; simp only [Act.put, List.setIfInBounds_toArray, List.set_cons_succ, List.set_cons_zero, List.getElem_toArray, List.getElem_cons_succ, List.getElem_cons_zero]) | (refine wpCan_yes rfl rfl (fun K hK => ?_); go_simp; refine hK _ ?_; clear hK K)
                  first | (refine wpCan_no rfl rfl ?_; simp only [Act.put, List.setIfInBounds_toArray, List.set_cons_succ, List.set_cons_zero, List.getElem_toArray, List.getElem_cons_succ, List.getElem_cons_zero]) | (refine wpCan_yes rfl rfl (fun K hK => ?_); go_simp; refine hK _ ?_; clear hK K)
                  iterate 1 (refine wpCan_read rfl rfl (fun K hK => ?_); go_simp; refine hK _ ?_; clear hK K)
                  refine wpCan_nil ?_
                  go_wp2_with fail
                  go_roundw
                  case rel => exact ⟨i0 + 1 + 1, by go_num, by omega, HS8.out.drew⟩
                  case measure => simp [intOf]; omega
              · have hii : ¬ ((i : Int) < (bs.length : Int)) := by omega
                go_wp2_with fail
                go_roundw
                case rel => exact ⟨k + 1, m2, by go_num, rfl, by omega, HMK.out, HS8.out.drop⟩
                case measure => simp [intOf]; omega
        · have hkk : ¬ ((k : Int) < 8) := by omega
          have HL2 := Lib.hid (HLN.out _ HS3.out)
          have HFIN := Lib.hid (show ((Q.held.length + Q.waits.length : Nat) : Int) = m by rw [HM.out, show k = 8 by omega, cntQ_eight HSC.out])
          go_wp2_with (go_at_call 28; refine HL2.out.mono ?_; rintro e9 w9 ⟨rfl, hk9⟩; have HS9 := Lib.hid (HS3.out.kept hk9); clear hk9 HL2 HS3; rw [HFIN.out])
          go_ret
          exact ⟨rfl, HEND.out D1 _ HLE.out HS9.out.drop⟩
end Go.Proofs.YtkdinhlmghfpeaaGreatDoor
