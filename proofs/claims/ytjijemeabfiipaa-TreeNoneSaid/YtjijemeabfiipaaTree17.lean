/- The tree: the document's example. -/
import Derived.Test.YtjijemeabfiipaaTree16
namespace Go.Proofs.Ytjijemeabfiipaa
open Go.ChangeShapes Go.WideShapes Go.ChangeAt Go.RowKit
set_option maxRecDepth 100000
set_option linter.unusedSimpArgs false

def nV (n : Int) : Val := ⟨false, n, ⟨#[]⟩⟩
def awL : Nat → PL
  | 0 => []
  | j + 1 => putL (awL j) (nV (5 - (j : Int))) (10 * (5 - (j : Int)))
def awS : Spn := ⟨false, true, true, nV 1, true, false, nV 3⟩
theorem awL5 : awL 5 = [(nV 1, 10), (nV 2, 20), (nV 3, 30), (nV 4, 40), (nV 5, 50)] := by decide
theorem awQ : inS awS (awL 5) = [(nV 2, 20), (nV 3, 30)] := by rw [awL5]; decide

theorem Good.facts {T : TM} {L : PL} (h : Good T L) (hL : L ≠ []) : 1 ≤ T.k.depth ∧ T.free.length + 1 ≤ T.nodes.length := by
  rcases h.rep with ⟨_, h2, _⟩ | ⟨r, d, ids, m, h1, h2, h3, h4, _⟩
  · exact absurd h2 hL
  · refine ⟨by omega, ?_⟩
    have e := h4.length_eq
    have := List.length_pos_of_mem h3.self
    simp at e
    omega

set_option maxHeartbeats 2000000 in
theorem awake_ok (w : World) : Calls Try.prog 10 #[] w fun e w' => e = .returned (.bool true) ∧ Kept (fun _ => False) w w' := by
  have HS := Lib.hid (Sat.start w)
  go_enter Try.func10, Try.ntmps10
  go_wp2_with ((go_at_call 11; refine (New_ok HS.out).mono ?_; rintro e1 w1 ⟨t, rfl, ha⟩; have HA := Lib.hid ha; clear ha))
  go_loopw [2] (fun idx wr => ∃ j : Nat, idx = .int .i64 (5 - (j : Int)) ∧ j ≤ 5 ∧ ∃ T, Good T (awL j) ∧ Small T (awL j) j ∧ TreeA w (heapOf w) wr t T []) (fun idx _ => (intOf idx).toNat)
  case atStart => exact ⟨0, rfl, by omega, _, good_empty, small_empty, HA.out⟩
  case round =>
    obtain ⟨j, rfl, hj, T, hG, hS, hA⟩ := hrel
    by_cases hj5 : j < 5
    · have h0 : (5 - (j : Int)) > 0 := by omega
      have hw1 : IntKind.i64.wrap (10 * (5 - (j : Int))) = 10 * (5 - (j : Int)) := i64w _ (by omega) (by omega)
      have hw2 : IntKind.i64.wrap (5 - (j : Int) - 1) = 5 - ((j + 1 : Nat) : Int) := by rw [i64w _ (by omega) (by omega)]; omega
      have HP := Lib.hid (Put_ok (nV (5 - (j : Int))) (10 * (5 - (j : Int))) hG hS (by omega) hA)
      have HSM := Lib.hid hS
      clear hG hS hA
      go_wp2_with ((go_at_call 12; refine HP.out.mono ?_; clear HP; rintro e2 w2 ⟨T2, rfl, ha2, hn2⟩; have HN := Lib.hid (And.intro ha2 hn2); clear ha2 hn2))
      exact ⟨⟨j + 1, by simp, by omega, T2, HN.out.2.good, HN.out.2.small HSM.out, HN.out.1⟩, by simp [intOf]; omega⟩
    · obtain rfl : j = 5 := by omega
      have h0 : ¬ ((5 - ((5 : Nat) : Int)) > 0) := by omega
      have hq := awQ
      have HT := Lib.hid (pairs_ok (hG.tells awS) (by rw [hq]; decide) hA)
      rw [hq] at HT
      have hb := hS.bound (by omega)
      have hmany := hG.many
      rw [awL5] at hmany
      obtain ⟨hd1, hu1⟩ := hG.facts (by rw [awL5]; simp)
      have hmany' : T.k.many = 5 := hmany
      generalize T.k.depth = td at hd1
      have HF := Lib.hid (And.intro hmany' (And.intro hb.1 hu1))
      have HD := Lib.hid hG
      clear hA hS hmany hmany' hb hG hq hu1
      go_upto_region 7 with ((go_at_call 13; refine HT.out.mono ?_; clear HT; rintro e2 w2 ⟨v, rfl, ha2⟩; have HA2 := Lib.hid ha2; clear ha2))
      have ha2 := HA2.out
      obtain ⟨nv, fv, ns, hns, hs⟩ := ha2
      have ho := Sat.own hs 4 rfl
      obtain ⟨g, cap, rfl, _, hcap⟩ := ho.form (by simp)
      unfold maxLen at hcap
      have c3 := ho.cells 3 _ rfl
      have c5 := ho.cells 5 _ rfl
      clear hs ho hns
      have hmx := HF.out.1
      have hdx := (HD.out.facts (by rw [awL5]; simp)).1
      have hux := HF.out.2.2
      go_wp2_with (first | (go_at_call 20; refine (Len_ok HA2.out).mono ?_; rintro e3 w3 ⟨rfl, rfl⟩; rw [HF.out.1]) | (go_at_call 21; refine (Depth_ok HA2.out).mono ?_; rintro e3 w3 ⟨rfl, rfl⟩) | (go_at_call 22; refine (Used_ok (by have := HF.out.2.1; omega) (by have := HF.out.2.2; omega) HA2.out).mono ?_; rintro e3 w3 ⟨rfl, hk3⟩; have HK3 := Lib.hid hk3; clear hk3))
      go_ret
      exact ⟨by show Ending.returned (.bool (decide (1 ≤ (T.nodes.length : Int) - (T.free.length : Int)))) = _; rw [decide_eq_true (by omega)], (HA2.out.end_ (PH.le.refl _)).trans HK3.out (fun _ h => h.elim)⟩
end Go.Proofs.Ytjijemeabfiipaa
