/- Of one lock's modes no two that don't go together are ever held (the law FifoModes). -/
import Derived.Test.YtkdinhlmghfpeaaGreatDoorJ26
import Derived.Test.YtkdinhlmghfpeaaGreatDoorJ28
import Derived.Deep.DeepCutAuto
namespace Go.Proofs.YtkdinhlmghfpeaaGreatDoor
open Go.ChangeShapes Go.WideShapes Go.ChangeAt Go.RowKit
set_option maxRecDepth 100000
set_option linter.unusedSimpArgs false

def totQ {C : Type} (q : Qm C) : Nat := q.held.length + q.waits.length
theorem give_tot {C : Type} {R : Rul C} (q : Qm C) (e : Ent C) : totQ (giveQ R q e) ≤ totQ q + 1 := by
  have := giveL_len (R := R) q.held e
  show (giveL R q.held e).length + q.waits.length ≤ _
  unfold totQ
  omega
theorem ask_tot {C : Type} {R : Rul C} (q : Qm C) (o : Int) (c : C) (b : Bool) : totQ (askQ R q o c b).1 ≤ totQ q + 1 := by
  unfold askQ
  split
  · exact Nat.le_succ _
  · split
    · exact Nat.le_succ _
    · split
      · exact give_tot q _
      · split
        · unfold totQ; simp only [List.length_append, List.length_take, List.length_drop, List.length_cons, List.length_nil]; omega
        · exact Nat.le_succ _
theorem moved_tot {C : Type} {R : Rul C} {N : Nat} (q : Qm C) (h : totQ q ≤ N) : totQ (movedQ R q).1 ≤ N :=
  moveQ_ind (P := fun q => totQ q ≤ N) (fun q i e h _ he => by
    have h1 := give_tot (R := R) ⟨q.held, q.waits.eraseIdx i⟩ e
    have h2 : (q.waits.eraseIdx i).length = q.waits.length - 1 := List.length_eraseIdx_of_lt (List.getElem?_eq_some_iff.1 he).1
    have h3 := (List.getElem?_eq_some_iff.1 he).1
    unfold totQ at h h1 ⊢
    dsimp only at h1
    omega) _ _ h
theorem drop_tot {C : Type} {R : Rul C} (q : Qm C) (g : Ent C → Bool) : totQ (dropQ R q g).1 ≤ totQ q := by
  refine moved_tot _ ?_
  have := List.length_filter_le (fun e => !g e) q.held
  show (q.held.filter _).length + q.waits.length ≤ q.held.length + q.waits.length
  omega
theorem leave_tot {C : Type} {R : Rul C} (q : Qm C) (o : Int) : totQ (leaveQ R q o).1 ≤ totQ q := by
  refine moved_tot _ ?_
  have := List.length_filter_le (fun e => !ofE o e) q.waits
  show q.held.length + (q.waits.filter _).length ≤ q.held.length + q.waits.length
  omega
theorem intAt0 {w : World} {v : Value} {x : Int} (h : IntsRd w v [x]) : ∃ g o c, v = .slice (some ⟨g, o, none⟩) 1 c ∧ w.cell? ⟨g, o, none⟩ = some (.int .i64 x) := by
  obtain ⟨g, o, c, h1, h2⟩ := intAt (k := 0) h rfl
  exact ⟨g, o, c, h1, h2⟩
theorem and1023 (x : Int) : ∃ q : Nat, bits .and .i64 x 1023 = (q : Int) ∧ q ≤ 1023 := by
  have h : (BitVec.ofInt 64 x &&& BitVec.ofInt 64 1023).toNat ≤ 1023 := by
    rw [BitVec.toNat_and]
    exact Nat.and_le_right
  have e : bits .and .i64 x 1023 = IntKind.i64.wrap ((BitVec.ofInt 64 x &&& BitVec.ofInt 64 1023).toNat : Int) := rfl
  exact ⟨_, by rw [e, IntWalk.i64_in _ (by omega)], h⟩
theorem modesOk_nil : ModesOk ⟨[], []⟩ := ⟨List.Pairwise.nil, ⟨fun e he => (by cases he), fun e he => (by cases he)⟩, fun a ha => (by cases ha)⟩
set_option maxHeartbeats 16000000 in
theorem modesLaw_ok {W : World} {v1 v2 : Value} {ds ms : List Int} (hE : EnvD (heapOf W)) (hv1 : IntsRd W v1 ds) (hv2 : IntsRd W v2 ms) : Calls Tryz.prog 4 #[v1, v2] W fun e w' => e = .returned (.bool true) ∧ Kept (fun _ => False) W w' := by
  obtain ⟨D, hD⟩ : ∃ D, D = heapOf W := ⟨_, rfl⟩
  have hs0 : Sat W D W [] := by rw [hD]; exact Sat.start W
  have HEND := Lib.hid (show ∀ w', Sat W D w' [] → Kept (fun _ => False) W w' from fun w' hs => hs.end_ (by rw [hD]; exact PH.le.refl _))
  rw [← hD] at hE
  have HV1 := Lib.hid (show RdP D 1 v1 ds.length (ds.map (Value.int .i64)) by rw [hD]; exact RdP.of_rd hv1 (by omega))
  have HV2 := Lib.hid (show RdP D 1 v2 ms.length (ms.map (Value.int .i64)) by rw [hD]; exact RdP.of_rd hv2 (by omega))
  obtain ⟨va1, vc1, rfl⟩ := HV1.out.shape
  obtain ⟨va2, vc2, rfl⟩ := HV2.out.shape
  have hL1 : ds.length ≤ 9223372036854775807 := HV1.out.len
  have hL2 : ms.length ≤ 9223372036854775807 := HV2.out.len
  have HE := Lib.hid hE
  have HAW := Lib.hid (awake_ok hE hs0)
  clear hD hs0 hE hv1 hv2
  obtain ⟨L, hLe⟩ : ∃ L, ds.length = L := ⟨_, rfl⟩
  obtain ⟨M, hMe⟩ : ∃ M, ms.length = M := ⟨_, rfl⟩
  have HLL := Lib.hid hLe
  have HMM := Lib.hid hMe
  rw [hLe] at HV1 hL1 ⊢
  rw [hMe] at HV2 hL2 ⊢
  clear hLe hMe
  go_enter Tryz.func4, Tryz.ntmps4
  go_upto_region 4 with (go_at_call 11; refine HAW.out.mono ?_; rintro e1 w1 ⟨rfl, hs1⟩; have HS1 := Lib.hid hs1; clear hs1 HAW)
  have HNEW := Lib.hid (Modes_new HS1.out)
  go_wp2_with (go_at_call 12; refine HNEW.out.mono ?_; rintro e2 w2 ⟨qq, rfl, hs2⟩; have HS2 := Lib.hid hs2; clear hs2 HNEW HS1)
  go_loopw [7] (fun ii wr => ∃ (k : Nat) (Q : Qm Int), ii = .int .i64 k ∧ k ≤ 40 ∧ ModesOk Q ∧ totQ Q ≤ k ∧ Sat W D wr (queM D qq Q :: [])) (fun ii _ => 40 - (intOf ii).toNat)
  case atStart => exact ⟨0, ⟨[], []⟩, rfl, by omega, modesOk_nil, Nat.le_refl _, HS2.out⟩
  case round =>
    obtain ⟨k, Q, rfl, hk, hm, ht, hs3⟩ := hrel
    have HS3 := Lib.hid hs3
    have HMQ := Lib.hid hm
    unfold totQ at ht
    clear hs3 HS2 hm
    by_cases hk1 : k < L
    · by_cases hk2 : k < M
      · by_cases hk3 : k < 40
        · have hi1 : (k : Int) < (L : Int) := by omega
          have hi2 : (k : Int) < (M : Int) := by omega
          have hi3 : (k : Int) < 40 := by omega
          obtain ⟨d, hd⟩ : ∃ d, ds[k]? = some d := ⟨ds[k]'(by rw [HLL.out]; exact hk1), List.getElem?_eq_getElem _⟩
          obtain ⟨m, hmm⟩ : ∃ m, ms[k]? = some m := ⟨ms[k]'(by rw [HMM.out]; exact hk2), List.getElem?_eq_getElem _⟩
          obtain ⟨g1, o1, c1, hva1, hcell1⟩ := intAt (by have := HV1.out.rd HS3.out; rw [← HLL.out] at this; exact this) hd
          obtain ⟨g2, o2, c2, hva2, hcell2⟩ := intAt (by have := HV2.out.rd HS3.out; rw [← HMM.out] at this; exact this) hmm
          have ha1 := (Value.slice.inj hva1).1
          have ha2 := (Value.slice.inj hva2).1
          subst ha1
          subst ha2
          obtain ⟨p, hp, hp7⟩ := and7 d
          obtain ⟨r, hr, hr7⟩ := and1023 m
          clear hd hmm hva1 hva2 hk1 hk2 hk3
          go_upto_region 10 with fail
          rw [show (1 + (r : Int) % 6) = ((1 + r % 6 : Nat) : Int) by omega]
          have hm1 : 1 ≤ ((1 + r % 6 : Nat) : Int) ∧ ((1 + r % 6 : Nat) : Int) ≤ 6 := by omega
          generalize 1 + r % 6 = mo at hm1 ⊢
          clear hp hr hcell1
          go_upto_if 52 with fail
          go_cut [] (fun wx => ∃ Q5 : Qm Int, ModesOk Q5 ∧ totQ Q5 ≤ k + 1 ∧ Sat W D wx (queM D qq Q5 :: []))
          case first =>
            by_cases hneg : m < 0
            · have HC := Lib.hid (Clear_M (p : Int) HE.out (by omega) HS3.out)
              have HM5 := Lib.hid (drop_modes HMQ.out (ofE (p : Int)))
              have ht5 := Lib.hid (show totQ (dropQ RM Q (ofE (p : Int))).1 ≤ k + 1 by have := drop_tot (R := RM) Q (ofE (p : Int)); unfold totQ at this ⊢; omega)
              go_wp2_with (go_at_call 16; refine HC.out.mono ?_; rintro e8 w8 ⟨v8, rfl, hs8⟩; have HS5 := Lib.hid hs8.swap.drop; clear hs8 HC HS3)
              go_meet
              exact ⟨_, HM5.out, ht5.out, HS5.out⟩
            · have HA := Lib.hid (Ask_M (p : Int) (mo : Int) HE.out (by omega) (by omega) HS3.out)
              have HGOT := Lib.hid (modes_got HMQ.out (p : Int) (mo : Int) hm1)
              obtain ⟨Q5, hQ5⟩ : ∃ Q5, Q5 = (askQ RM Q (p : Int) (mo : Int) true).1 := ⟨_, rfl⟩
              have HM5 := Lib.hid (show ModesOk Q5 by rw [hQ5]; exact ask_modes HMQ.out _ _ hm1)
              have ht5 : totQ Q5 ≤ k + 1 := by rw [hQ5]; have := ask_tot (R := RM) Q (p : Int) (mo : Int) true; unfold totQ at this ⊢; omega
              rw [← hQ5] at HA HGOT
              have ht6 : Q5.held.length + Q5.waits.length ≤ k + 1 := ht5
              clear hQ5
              cases hres : (askQ RM Q (p : Int) (mo : Int) true).2
              · rw [hres] at HA
                clear hres HGOT
                go_upto_region 13 with (go_at_call 13; refine HA.out.mono ?_; rintro e4 w4 ⟨rfl, hs4⟩; have HS4 := Lib.hid hs4; clear hs4 HA HS3)
                have HH := Lib.hid (Holds_M (p : Int) (by omega) HS4.out)
                go_wp2_with (go_at_call 14; refine HH.out.mono ?_; rintro e5 w5 ⟨v5, rfl, hs5⟩; have HS5 := Lib.hid hs5.drop; clear hs5 HH HS4)
                go_meet
                exact ⟨_, HM5.out, ht5, HS5.out⟩
              · obtain ⟨x, hx, hcov⟩ := HGOT.out hres
                rw [hres] at HA
                have HX := Lib.hid hx
                have HCOV := Lib.hid hcov
                have hx16 : 1 ≤ x ∧ x ≤ 6 := by
                  have : x ∈ holdsQ Q5 (p : Int) := by rw [hx]; simp
                  obtain ⟨e, he, _, rfl⟩ := holds_mem this
                  exact HM5.out.right.1 e he
                clear hres HGOT hx hcov
                go_upto_region 13 with (go_at_call 13; refine HA.out.mono ?_; rintro e4 w4 ⟨rfl, hs4⟩; have HS4 := Lib.hid hs4; clear hs4 HA HS3)
                have HH := Lib.hid (Holds_M (p : Int) (by omega) HS4.out)
                rw [HX.out] at HH
                have HCV := Lib.hid (show ∀ w, Calls Tryz.prog 19 #[.int .i64 x, .int .i64 mo] w fun e w' => e = .returned (.bool true) ∧ Kept (fun _ => False) w w' from fun w => by rw [← HCOV.out]; exact rCovers_in x mo (by omega) (by omega) w)
                go_upto_region 14 with (go_at_call 14; refine HH.out.mono ?_; rintro e5 w5 ⟨v5, rfl, hs5⟩; obtain ⟨g5, o5, cc5, rfl, hcell5⟩ := intAt0 (x := x) (hs5.own 0 rfl).rd; have HS6 := Lib.hid hs5; clear hs5 HH HS4)
                go_wp2_with (go_at_call 19; refine (HCV.out _).mono ?_; rintro e6 w6 ⟨rfl, hk6⟩; have HS5 := Lib.hid (HS6.out.kept hk6).drop; clear hk6 HCV HS6 hcell5)
                go_meet
                exact ⟨_, HM5.out, ht5, HS5.out⟩
          case rest =>
            obtain ⟨Q5, hm5, ht5, hs5⟩ := hcut
            have HM5 := Lib.hid hm5
            have HS6 := Lib.hid hs5
            have ht6 : Q5.held.length + Q5.waits.length ≤ k + 1 := ht5
            clear hm5 hs5
            go_wp2_with fail
            go_loopw [12] (fun ii wr => ∃ a : Nat, ii = .int .i64 a ∧ a ≤ 8 ∧ Sat W D wr (queM D qq Q5 :: [])) (fun ii _ => 8 - (intOf ii).toNat)
            case atStart => exact ⟨0, rfl, by omega, HS6.out⟩
            case round =>
              obtain ⟨a, rfl, ha, hs7⟩ := hrel
              have HS7 := Lib.hid hs7
              clear hs7 HS6
              by_cases ha8 : a < 8
              · have hai : (a : Int) < 8 := by omega
                have HH := Lib.hid (Holds_M (a : Int) (by omega) HS7.out)
                have hone := modes_one HM5.out (a : Int)
                obtain ⟨la, hla⟩ : ∃ la, la = holdsQ Q5 (a : Int) := ⟨_, rfl⟩
                rw [← hla] at HH hone
                have HLA := Lib.hid hla
                clear hla
                rcases la with _ | ⟨x, la⟩
                · go_upto_region 22 with (go_at_call 14; refine HH.out.mono ?_; rintro e8 w8 ⟨v8, rfl, hs8⟩; obtain ⟨a8, c8, rfl⟩ : ∃ a c, v8 = .slice a 0 c := hs8.own_shape; have HS8 := Lib.hid hs8.drop; clear hs8 HH HS7)
                  go_wp2_with fail
                  go_loopw [14] (fun ii wr => ∃ b : Nat, ii = .int .i64 b ∧ Sat W D wr (queM D qq Q5 :: [])) (fun ii _ => 8 - (intOf ii).toNat)
                  case atStart => exact ⟨0, rfl, HS8.out⟩
                  case round =>
                    obtain ⟨b, rfl, hs9⟩ := hrel
                    have HS9 := Lib.hid hs9
                    clear hs9 HS8
                    by_cases hba : b < a
                    · have hbi : (b : Int) < (a : Int) := by omega
                      go_wp2_with fail
                      go_roundw
                      case rel => exact ⟨a + 1, by go_num, by omega, HS9.out⟩
                      case measure => simp [intOf]; omega
                    · have hbi : ¬ ((b : Int) < (a : Int)) := by omega
                      go_wp2_with fail
                      go_roundw
                      case rel => exact ⟨a + 1, by go_num, by omega, HS9.out⟩
                      case measure => simp [intOf]; omega
                · obtain rfl : la = [] := List.eq_nil_of_length_eq_zero (by simp only [List.length_cons] at hone; omega)
                  clear hone
                  go_upto_region 22 with (go_at_call 14; refine HH.out.mono ?_; rintro e8 w8 ⟨v8, rfl, hs8⟩; obtain ⟨a8, c8, rfl⟩ : ∃ a c, v8 = .slice a 1 c := hs8.own_shape; have HS8 := Lib.hid hs8; clear hs8 HH HS7)
                  go_wp2_with fail
                  go_loopw [14] (fun ii wr => ∃ b : Nat, ii = .int .i64 b ∧ Sat W D wr (modesP (.slice a8 1 c8) [x] :: queM D qq Q5 :: [])) (fun ii _ => 8 - (intOf ii).toNat)
                  case atStart => exact ⟨0, rfl, HS8.out⟩
                  case round =>
                    obtain ⟨b, rfl, hs9⟩ := hrel
                    have HS9 := Lib.hid hs9
                    clear hs9 HS8
                    by_cases hba : b < a
                    · have hbi : (b : Int) < (a : Int) := by omega
                      have HH2 := Lib.hid (Holds_M (b : Int) (by omega) HS9.out.swap)
                      have hone2 := modes_one HM5.out (b : Int)
                      obtain ⟨lb, hlb⟩ : ∃ lb, lb = holdsQ Q5 (b : Int) := ⟨_, rfl⟩
                      rw [← hlb] at HH2 hone2
                      have HLB := Lib.hid hlb
                      clear hlb
                      rcases lb with _ | ⟨y, lb⟩
                      · go_upto_region 26 with (go_at_call 14; refine HH2.out.mono ?_; rintro e10 w10 ⟨v10, rfl, hs10⟩; obtain ⟨a10, c10, rfl⟩ : ∃ a c, v10 = .slice a 0 c := hs10.own_shape; have HS10 := Lib.hid hs10; clear hs10 HH2 HS9)
                        refine wp_region_canon [(0, false, 10), (1, false, 10), (2, false, 10), (3, false, 10), (4, false, 10), (5, false, 10), (6, false, 10), (7, false, 10), (8, false, 10), (9, false, 10), (10, true, 0), (11, false, 999), (12, false, 999)] (by kernel_rfl) (by kernel_rfl) ?_
                        iterate 4 (refine wpCan_read rfl rfl (fun K hK => ?_); go_simp; refine hK _ ?_; clear hK K)
                        first | (refine wpCan_no rfl rfl ?_; simp only [Act.put, List.setIfInBounds_toArray, List.set_cons_succ, List.set_cons_zero, List.getElem_toArray, List.getElem_cons_succ, List.getElem_cons_zero]) | (refine wpCan_yes rfl rfl (fun K hK => ?_); go_simp; refine hK _ ?_; clear hK K)
                        first | (refine wpCan_no rfl rfl ?_; simp only [Act.put, List.setIfInBounds_toArray, List.set_cons_succ, List.set_cons_zero, List.getElem_toArray, List.getElem_cons_succ, List.getElem_cons_zero]) | (refine wpCan_yes rfl rfl (fun K hK => ?_); go_simp; refine hK _ ?_; clear hK K)
                        first | (refine wpCan_no rfl rfl ?_; simp only [Act.put, List.setIfInBounds_toArray, List.set_cons_succ, List.set_cons_zero, List.getElem_toArray, List.getElem_cons_succ, List.getElem_cons_zero]) | (refine wpCan_yes rfl rfl (fun K hK => ?_); go_simp; refine hK _ ?_; clear hK K)
                        first | (refine wpCan_no rfl rfl ?_; simp only [Act.put, List.setIfInBounds_toArray, List.set_cons_succ, List.set_cons_zero, List.getElem_toArray, List.getElem_cons_succ, List.getElem_cons_zero]) | (refine wpCan_yes rfl rfl (fun K hK => ?_); go_simp; refine hK _ ?_; clear hK K)
                        first | (refine wpCan_no rfl rfl ?_; simp only [Act.put, List.setIfInBounds_toArray, List.set_cons_succ, List.set_cons_zero, List.getElem_toArray, List.getElem_cons_succ, List.getElem_cons_zero]) | (refine wpCan_yes rfl rfl (fun K hK => ?_); go_simp; refine hK _ ?_; clear hK K)
                        first | (refine wpCan_no rfl rfl ?_; simp only [Act.put, List.setIfInBounds_toArray, List.set_cons_succ, List.set_cons_zero, List.getElem_toArray, List.getElem_cons_succ, List.getElem_cons_zero]) | (refine wpCan_yes rfl rfl (fun K hK => ?_); go_simp; refine hK _ ?_; clear hK K)
                        refine wpCan_eff rfl ?_
                        refine wpList_not rfl ?_
                        simp only [Act.put, List.setIfInBounds_toArray, List.set_cons_succ, List.set_cons_zero]
                        refine wpList_nil ?_
                        refine And.intro ?_ ?_
                        · go_simp
                        first | (refine wpCan_no rfl rfl ?_; simp only [Act.put, List.setIfInBounds_toArray, List.set_cons_succ, List.set_cons_zero, List.getElem_toArray, List.getElem_cons_succ, List.getElem_cons_zero]) | (refine wpCan_yes rfl rfl (fun K hK => ?_); go_simp; refine hK _ ?_; clear hK K)
                        iterate 1 (refine wpCan_read rfl rfl (fun K hK => ?_); go_simp; refine hK _ ?_; clear hK K)
                        refine wpCan_nil ?_
                        go_wp2_with fail
                        go_roundw
                        case rel => exact ⟨b + 1, by go_num, HS10.out.drew.drop.swap⟩
                        case measure => simp [intOf]; omega
                      · obtain rfl : lb = [] := List.eq_nil_of_length_eq_zero (by simp only [List.length_cons] at hone2; omega)
                        clear hone2
                        have HFT := Lib.hid (show fitsM x y = true from modes_fit HM5.out (show (a : Int) ≠ (b : Int) by omega) (by rw [← HLA.out]; simp) (by rw [← HLB.out]; simp))
                        go_upto_region 26 with (go_at_call 14; refine HH2.out.mono ?_; rintro e10 w10 ⟨v10, rfl, hs10⟩; obtain ⟨a10, c10, rfl⟩ : ∃ a c, v10 = .slice a 1 c := hs10.own_shape; have HS10 := Lib.hid hs10; clear hs10 HH2 HS9)
                        obtain ⟨g1, o1, cc1, hv1, hcell1⟩ := intAt0 (x := y) (HS10.out.own 0 rfl).rd
                        obtain ⟨g2, o2, cc2, hv2, hcell2⟩ := intAt0 (x := x) (HS10.out.own 2 rfl).rd
                        have ha1 := (Value.slice.inj hv1).1
                        have ha2 := (Value.slice.inj hv2).1
                        subst ha1
                        subst ha2
                        clear hv1 hv2
                        have HFC := Lib.hid (rFits_ok x y w10.drew)
                        rw [HFT.out] at HFC
                        refine wp_region_canon [(0, false, 10), (1, false, 10), (2, false, 10), (3, false, 10), (4, false, 10), (5, false, 10), (6, false, 10), (7, false, 10), (8, false, 10), (9, false, 10), (10, true, 0), (11, false, 999), (12, false, 999)] (by kernel_rfl) (by kernel_rfl) ?_
                        iterate 4 (refine wpCan_read rfl rfl (fun K hK => ?_); go_simp; refine hK _ ?_; clear hK K)
                        first | (refine wpCan_no rfl rfl ?_; simp only [Act.put, List.setIfInBounds_toArray, List.set_cons_succ, List.set_cons_zero, List.getElem_toArray, List.getElem_cons_succ, List.getElem_cons_zero]) | (refine wpCan_yes rfl rfl (fun K hK => ?_); go_simp; refine hK _ ?_; clear hK K)
                        first | (refine wpCan_no rfl rfl ?_; simp only [Act.put, List.setIfInBounds_toArray, List.set_cons_succ, List.set_cons_zero, List.getElem_toArray, List.getElem_cons_succ, List.getElem_cons_zero]) | (refine wpCan_yes rfl rfl (fun K hK => ?_); go_simp; refine hK _ ?_; clear hK K)
                        first | (refine wpCan_no rfl rfl ?_; simp only [Act.put, List.setIfInBounds_toArray, List.set_cons_succ, List.set_cons_zero, List.getElem_toArray, List.getElem_cons_succ, List.getElem_cons_zero]) | (refine wpCan_yes rfl rfl (fun K hK => ?_); go_simp; refine hK _ ?_; clear hK K)
                        first | (refine wpCan_no rfl rfl ?_; simp only [Act.put, List.setIfInBounds_toArray, List.set_cons_succ, List.set_cons_zero, List.getElem_toArray, List.getElem_cons_succ, List.getElem_cons_zero]) | (refine wpCan_yes rfl rfl (fun K hK => ?_); go_simp; refine hK _ ?_; clear hK K)
                        first | (refine wpCan_no rfl rfl ?_; simp only [Act.put, List.setIfInBounds_toArray, List.set_cons_succ, List.set_cons_zero, List.getElem_toArray, List.getElem_cons_succ, List.getElem_cons_zero]) | (refine wpCan_yes rfl rfl (fun K hK => ?_); go_simp; refine hK _ ?_; clear hK K)
                        first | (refine wpCan_no rfl rfl ?_; simp only [Act.put, List.setIfInBounds_toArray, List.set_cons_succ, List.set_cons_zero, List.getElem_toArray, List.getElem_cons_succ, List.getElem_cons_zero]) | (refine wpCan_yes rfl rfl (fun K hK => ?_); go_simp; refine hK _ ?_; clear hK K)
                        refine wpCan_eff rfl ?_
                        refine wpList_do rfl (fun K hK => ?_)
                        go_simp
                        refine HFC.out.mono ?_
                        rintro e11 w11 ⟨rfl, hk11⟩
                        have HS11 := Lib.hid (HS10.out.drew.kept hk11)
                        clear hk11 HFC HS10 hcell1 hcell2
                        refine hK _ _ ?_
                        clear hK K
                        refine wpList_nil ?_
                        refine And.intro ?_ ?_
                        · go_simp
                        first | (refine wpCan_no rfl rfl ?_; simp only [Act.put, List.setIfInBounds_toArray, List.set_cons_succ, List.set_cons_zero, List.getElem_toArray, List.getElem_cons_succ, List.getElem_cons_zero]) | (refine wpCan_yes rfl rfl (fun K hK => ?_); go_simp; refine hK _ ?_; clear hK K)
                        iterate 1 (refine wpCan_read rfl rfl (fun K hK => ?_); go_simp; refine hK _ ?_; clear hK K)
                        refine wpCan_nil ?_
                        go_wp2_with fail
                        go_roundw
                        case rel => exact ⟨b + 1, by go_num, HS11.out.drop.swap⟩
                        case measure => simp [intOf]; omega
                    · have hbi : ¬ ((b : Int) < (a : Int)) := by omega
                      go_wp2_with fail
                      go_roundw
                      case rel => exact ⟨a + 1, by go_num, by omega, HS9.out.drop⟩
                      case measure => simp [intOf]; omega
              · have hai : ¬ ((a : Int) < 8) := by omega
                go_wp2_with fail
                go_roundw
                case rel => exact ⟨k + 1, Q5, by go_num, by omega, HM5.out, ht5, HS7.out⟩
                case measure => simp [intOf]; omega
        · have hi1 : (k : Int) < (L : Int) := by omega
          have hi2 : (k : Int) < (M : Int) := by omega
          have hi3 : ¬ ((k : Int) < 40) := by omega
          go_wp2_with fail
          go_ret
          exact ⟨rfl, HEND.out _ HS3.out.drop⟩
      · have hi1 : (k : Int) < (L : Int) := by omega
        have hi2 : ¬ ((k : Int) < (M : Int)) := by omega
        go_wp2_with fail
        go_ret
        exact ⟨rfl, HEND.out _ HS3.out.drop⟩
    · have hi1 : ¬ ((k : Int) < (L : Int)) := by omega
      go_wp2_with fail
      go_ret
      exact ⟨rfl, HEND.out _ HS3.out.drop⟩
end Go.Proofs.YtkdinhlmghfpeaaGreatDoor
