/- No two owners ever hold things that are in conflict (the law FifoApart). -/
import Derived.Test.YtkdinhlmghfpeaaGreatDoorJ48
import Derived.Test.YtkdinhlmghfpeaaGreatDoorJ35
namespace Go.Proofs.YtkdinhlmghfpeaaGreatDoor
open Go.ChangeShapes Go.WideShapes Go.ChangeAt Go.RowKit
set_option maxRecDepth 100000
set_option linter.unusedSimpArgs false

theorem doneA_apart {Q : Qm Clm} (h : Apart RC Q.held) (a : ActE) : Apart RC (doneA Q a).held := by
  unfold doneA doneQ
  split
  · exact ask_apart clmConf_sym h _ _ _
  · split
    · exact ask_apart clmConf_sym h _ _ _
    · split
      · exact leave_apart clmConf_sym h _
      · split
        · exact drop_apart clmConf_sym h _
        · exact drop_apart clmConf_sym h _
theorem runQ_apart (l : List ActE) : Apart RC (runQ l).held := runQ_ind (P := fun _ Q => Apart RC Q.held) (fun e he => by cases he) (fun n Q a _ h => by
  unfold stepQ
  split
  · exact doneA_apart h a
  · exact h)
theorem held_apart {n : Nat} {Q : Qm Clm} (hA : Apart RC Q.held) (hS : ScOk n Q) {a b : Int} (hab : a ≠ b) {cs ds : List ClmE} (hc : cs.map ClmE.c = holdsQ Q a) (hd : ds.map ClmE.c = holdsQ Q b) {x y : ClmE} (hx : x ∈ cs) (hy : y ∈ ds) : RC.conf x.c y.c = false ∧ ClmFit x.c ∧ ClmFit y.c := by
  obtain ⟨e, he, heo, hec⟩ := holds_mem (show x.c ∈ holdsQ Q a by rw [← hc]; exact List.mem_map.2 ⟨x, hx, rfl⟩)
  obtain ⟨f, hf, hfo, hfc⟩ := holds_mem (show y.c ∈ holdsQ Q b by rw [← hd]; exact List.mem_map.2 ⟨y, hy, rfl⟩)
  refine ⟨?_, ?_, ?_⟩
  · rw [← hec, ← hfc]; exact hA e he f hf (by rw [heo, hfo]; exact hab)
  · rw [← hec]; exact (hS.all.1 e he).2.1
  · rw [← hfc]; exact (hS.all.1 f hf).2.1
set_option maxHeartbeats 16000000 in
theorem apartLaw_ok {W : World} {v : Value} {acts : List ActE} (tb : EnvD (heapOf W)) (hv : ActsRd W v acts) :
    Calls Tryz.prog 5 #[v] W fun r w' => r = .returned (.bool true) ∧ Kept (fun _ => False) W w' := by
  obtain ⟨D, hD⟩ : ∃ D, heapOf W = D := ⟨_, rfl⟩
  have HV := Lib.hid (show ActsD D v acts by rw [← hD]; exact ActsD.of_rd hv)
  have HE := Lib.hid (show EnvD D by rw [← hD]; exact tb)
  have HAW := Lib.hid (awake_ok HE.out (show Sat W D W [] by rw [← hD]; exact Sat.start W))
  have HEND := Lib.hid (show ∀ (D' : PH) (w' : World), PH.le D D' → Sat W D' w' [] → Kept (fun _ => False) W w' from fun D' w' hle hs => hs.end_ (by rw [hD]; exact hle))
  obtain ⟨a, c, rfl, hN⟩ := HV.out.shape
  clear hv tb hD
  go_enter Tryz.func5, Tryz.ntmps5
  go_upto_region 4 with (go_at_call 11; refine HAW.out.mono ?_; rintro e1 w1 ⟨rfl, hs1⟩; have HS1 := Lib.hid hs1; clear hs1 HAW)
  go_wp2_with fail
  go_loopw [4] (fun ii wr => ∃ j : Nat, ii = .int .i64 j ∧ j ≤ acts.length ∧ Sat W D wr []) (fun ii _ => acts.length - (intOf ii).toNat)
  case atStart => exact ⟨0, rfl, Nat.zero_le _, HS1.out⟩
  case round =>
    obtain ⟨j, rfl, hj, hs⟩ := hrel
    have HS := Lib.hid hs
    clear hs HS1
    by_cases hlt : j < acts.length
    · have hji : (j : Int) < (acts.length : Int) := by omega
      obtain ⟨x, hx⟩ : ∃ x, acts[j]? = some x := ⟨acts[j]'hlt, List.getElem?_eq_getElem _⟩
      obtain ⟨g, og, hg, _, hr2, hok, _⟩ := actAt HV.out HS.out rfl hx
      subst hg
      have HL := Lib.hid (loadCl hr2)
      have HP := Lib.hid (plain_ok (hok.rd HS.out))
      clear hx hr2 hok
      cases hp : clmPlain x.x.c
      all_goals
        rw [hp] at HP
        clear hp
        go_wp2_with (first | (refine wpList_ld rfl _ _ rfl _ _ rfl _ HL.out ?_) | (go_at_call 21; refine HP.out.mono ?_; rintro e5 w5 ⟨rfl, hk5⟩; have HS5 := Lib.hid (HS.out.kept hk5); clear hk5 HS HP HL))
      · go_ret
        exact ⟨rfl, HEND.out D _ (PH.le.refl _) HS5.out⟩
      · go_roundw
        case rel => exact ⟨j + 1, by go_num, by omega, HS5.out⟩
        case measure => simp [intOf]; omega
    · have hji : ¬ ((j : Int) < (acts.length : Int)) := by omega
      have HB := Lib.hid (behind_ok HE.out HV.out HS.out)
      clear HS
      go_upto_region 11 with (go_at_call 22; refine HB.out.mono ?_; rintro e2 w2 ⟨q, D1, rfl, hle, hs2⟩; have HLE := Lib.hid hle; have HS2 := Lib.hid hs2; clear hle hs2 HB)
      have HAP := Lib.hid (runQ_apart (acts.take 40))
      have HSC := Lib.hid ((runQ_sc (l := acts.take 40) (fun y hy => (HV.out.2 y (List.mem_of_mem_take hy)).2)).mono (show (acts.take 40).length ≤ 40 by rw [List.length_take]; omega))
      have hh : (runQ (acts.take 40)).held.length ≤ 100000 := by have := HSC.out.len; omega
      generalize runQ (acts.take 40) = Q at *
      clear hji
      go_wp2_with fail
      go_loopw [7] (fun ii wr => ∃ i : Nat, ii = .int .i64 i ∧ i ≤ 8 ∧ Sat W D1 wr [queC D1 q Q]) (fun ii _ => 8 - (intOf ii).toNat)
      case atStart => exact ⟨0, rfl, by omega, HS2.out⟩
      case round =>
        obtain ⟨i, rfl, hi, hs⟩ := hrel
        have HS3 := Lib.hid hs
        clear hs HS2
        by_cases hi8 : i < 8
        · have hii : (i : Int) < 8 := by omega
          go_wp2_with fail
          go_loopw [8] (fun ii wr => ∃ k : Nat, ii = .int .i64 k ∧ i < k ∧ k ≤ 8 ∧ Sat W D1 wr [queC D1 q Q]) (fun ii _ => 8 - (intOf ii).toNat)
          case atStart => exact ⟨i + 1, by go_num, by omega, by omega, HS3.out⟩
          case round =>
            obtain ⟨k, rfl, hik, hk8, hs⟩ := hrel
            have HS4 := Lib.hid hs
            clear hs HS3
            by_cases hk : k < 8
            · have hkk : (k : Int) < 8 := by omega
              have HH1 := Lib.hid (Holds_C (i : Int) hh HS4.out)
              clear HS4
              go_upto_region 19 with (go_at_call 23; first
                | (refine HH1.out.mono ?_; rintro e5 w5 ⟨v5, rfl, hs5⟩; have HH2 := Lib.hid (Holds_C (k : Int) hh hs5.swap); clear hs5 HH1)
                | (refine HH2.out.mono ?_; rintro e6 w6 ⟨v6, rfl, hs6⟩; have HS6 := Lib.hid (hs6.front 2 rfl); clear hs6 HH2))
              obtain ⟨cs, hcm, hco, hs7⟩ := clmsOpen HS6.out
              obtain ⟨ds, hdm, hdo, hs8⟩ := clmsOpen (hs7.front 1 rfl)
              obtain ⟨a6, c6, rfl⟩ := hs8.own_shape
              obtain ⟨a5, c5, rfl⟩ := (hs8.front 1 rfl).own_shape
              have hcl := (hs8.own 1 rfl).rd.2.1
              have hdl := (hs8.own 0 rfl).rd.2.1
              unfold maxLen at hcl hdl
              have HPR := Lib.hid (fun (x y : ClmE) (hx : x ∈ cs) (hy : y ∈ ds) => held_apart HAP.out HSC.out (show (i : Int) ≠ (k : Int) by omega) hcm hdm hx hy)
              have HCO := Lib.hid hco
              have HDO := Lib.hid hdo
              have HS8 := Lib.hid hs8
              clear hcm hdm hco hdo hs7 hs8 HS6
              go_wp2_with fail
              go_loopw [11] (fun ii wr => ∃ m : Nat, ii = .int .i64 m ∧ m ≤ cs.length ∧ Sat W D1 wr [clsP (.slice a6 ds.length c6) ds, clsP (.slice a5 cs.length c5) cs, queC D1 q Q]) (fun ii _ => cs.length - (intOf ii).toNat)
              case atStart => exact ⟨0, rfl, by omega, HS8.out⟩
              case round =>
                obtain ⟨m, rfl, hm, hs⟩ := hrel
                have HS9 := Lib.hid hs
                clear hs HS8
                by_cases hml : m < cs.length
                · have hmi : (m : Int) < (cs.length : Int) := by omega
                  obtain ⟨x, hx⟩ : ∃ x, cs[m]? = some x := ⟨cs[m]'hml, List.getElem?_eq_getElem _⟩
                  have HX := Lib.hid hx
                  clear hx
                  go_wp2_with fail
                  go_loopw [12] (fun ii wr => ∃ p : Nat, ii = .int .i64 p ∧ p ≤ ds.length ∧ Sat W D1 wr [clsP (.slice a6 ds.length c6) ds, clsP (.slice a5 cs.length c5) cs, queC D1 q Q]) (fun ii _ => ds.length - (intOf ii).toNat)
                  case atStart => exact ⟨0, rfl, by omega, HS9.out⟩
                  case round =>
                    obtain ⟨p, rfl, hp, hs⟩ := hrel
                    have HSA := Lib.hid hs
                    clear hs HS9
                    by_cases hpl : p < ds.length
                    · have hpi : (p : Int) < (ds.length : Int) := by omega
                      obtain ⟨y, hy⟩ : ∃ y, ds[p]? = some y := ⟨ds[p]'hpl, List.getElem?_eq_getElem _⟩
                      obtain ⟨g5, o5, hg5, hr5⟩ := elem_range ClmE.len (HSA.out.own 1 rfl).rd HX.out rfl
                      obtain ⟨g6, o6, hg6, hr6⟩ := elem_range ClmE.len (HSA.out.own 0 rfl).rd hy rfl
                      obtain ⟨hcf, hfx, hfy⟩ := HPR.out x y (List.mem_of_getElem? HX.out) (List.mem_of_getElem? hy)
                      have HCF := Lib.hid (rConf_ok (w := wr.drew) ((HCO.out x (List.mem_of_getElem? HX.out)).rd HSA.out.drew) ((HDO.out y (List.mem_of_getElem? hy)).rd HSA.out.drew) hfx hfy)
                      rw [hcf] at HCF
                      cases hg5
                      cases hg6
                      have HLX := Lib.hid (loadCl (w := wr.drew) hr5)
                      have HLY := Lib.hid (loadCl (w := wr.drew) hr6)
                      clear hcf hfx hfy hr5 hr6 hy
                      go_upto_region 25 with fail
                      refine wp_region_canon [(0, false, 8), (1, false, 8), (2, false, 8), (3, false, 8), (4, false, 8), (5, false, 8), (6, false, 8), (7, false, 8), (8, true, 0)] (by kernel_rfl) (by kernel_rfl) ?_
                      iterate 8 (refine wpCan_read rfl rfl (fun K hK => ?_); (first | ((refine still_ld _ _ rfl _ _ rfl _ HLX.out ?_); go_simp) | ((refine still_ld _ _ rfl _ _ rfl _ HLY.out ?_); go_simp) | go_simp); refine hK _ ?_; clear hK K)
                      refine wpCan_eff rfl ?_
                      refine wpList_do rfl (fun K hK => ?_)
                      go_simp
                      refine HCF.out.mono ?_
                      rintro eb wb ⟨rfl, hkb⟩
                      have HSB := Lib.hid (HSA.out.drew.kept hkb)
                      clear hkb HCF HLX HLY HSA
                      refine hK _ _ ?_
                      clear hK K
                      refine wpList_nil ?_
                      refine And.intro ?_ ?_
                      · go_simp
                      refine wpCan_nil ?_
                      go_wp2_with fail
                      go_roundw
                      case rel => exact ⟨p + 1, by go_num, by omega, HSB.out⟩
                      case measure => simp [intOf]; omega
                    · have hpi : ¬ ((p : Int) < (ds.length : Int)) := by omega
                      go_wp2_with fail
                      go_roundw
                      case rel => exact ⟨m + 1, by go_num, by omega, HSA.out⟩
                      case measure => simp [intOf]; omega
                · have hmi : ¬ ((m : Int) < (cs.length : Int)) := by omega
                  go_wp2_with fail
                  go_roundw
                  case rel => exact ⟨k + 1, by go_num, by omega, by omega, HS9.out.drop.drop⟩
                  case measure => simp [intOf]; omega
            · have hkk : ¬ ((k : Int) < 8) := by omega
              go_wp2_with fail
              go_roundw
              case rel => exact ⟨i + 1, by go_num, by omega, HS4.out⟩
              case measure => simp [intOf]; omega
        · have hii : ¬ ((i : Int) < 8) := by omega
          go_wp2_with fail
          go_ret
          exact ⟨rfl, HEND.out D1 _ HLE.out HS3.out.drop⟩
end Go.Proofs.YtkdinhlmghfpeaaGreatDoor
