/- ratlineref02.Same: are two rows the same? -/
import Derived.Test.YtokcpmeoiblpfaaUndoOpen
import Derived.Test.YtokcpmeoiblpfaaUndoVal
namespace Go.Proofs.Ytokcpmeoiblpfaa
open Go.ChangeShapes Go.WideShapes Go.ChangeAt Go.RowKit
set_option maxRecDepth 100000
set_option linter.unusedSimpArgs false

theorem take_succ_eq {α : Type} {l1 l2 : List α} {k : Nat} {a : α} (h : l1.take k = l2.take k) (h1 : l1[k]? = some a) (h2 : l2[k]? = some a) : l1.take (k + 1) = l2.take (k + 1) := by
  rw [List.take_add_one, List.take_add_one, h, h1, h2]
theorem take_all_eq {α : Type} {l1 l2 : List α} {k : Nat} (h : l1.take k = l2.take k) (h1 : l1.length ≤ k) (h2 : l2.length ≤ k) : l1 = l2 := by
  rw [List.take_of_length_le h1, List.take_of_length_le h2] at h
  exact h

theorem RowRd.drewN {w : World} {v : Value} {l : List Val} (h : RowRd w v l) (n : Nat) : RowRd (w.drewN n) v l := ⟨h.1.frame (fun _ _ _ => rfl), h.2⟩
theorem RowRd.kept {S : Nat → Prop} {w w' : World} {v : Value} {l : List Val} (h : RowRd w v l) (hk : Kept S w w') (hS : ∀ g, v.ownBlock = some g → ¬ S g) : RowRd w' v l := ⟨h.1.kept hk hS, h.2⟩

set_option maxHeartbeats 4000000 in
theorem same_ok {w : World} {v1 v2 : Value} {l1 l2 : List Val} (h1 : RowRd w v1 l1) (h2 : RowRd w v2 l2) :
    Calls Try.prog 19 #[v1, v2] w fun e w' => e = .returned (.bool (decide (l1 = l2))) ∧ ∃ n, w' = w.drewN n := by
  obtain ⟨⟨_, m1, a1, c1, rfl, n1, _, _, g1⟩, _⟩ := h1
  obtain ⟨⟨_, m2, a2, c2, rfl, n2, _, _, g2⟩, _⟩ := h2
  unfold maxLen at m1 m2
  by_cases hlen : l1.length = l2.length
  · rw [← hlen] at g2
    have G1 := Lib.hid g1
    have G2 := Lib.hid g2
    clear g1 g2
    generalize hL : l1.length = L at *
    rw [← hlen]
    go_enter Try.func19, Try.ntmps19
    go_wp2_with fail
    go_loopw [5] (fun i wr => ∃ k : Nat, i = .int .i64 k ∧ k ≤ L ∧ l1.take k = l2.take k ∧ ∃ n, wr = w.drewN n) (fun i _ => L - (intOf i).toNat)
    case atStart => exact ⟨0, rfl, by omega, rfl, 0, rfl⟩
    case round =>
      obtain ⟨k, rfl, hk, ht, n0, rfl⟩ := hrel
      have HT := Lib.hid ht
      clear ht
      by_cases hlt : k < L
      · obtain ⟨a, ha⟩ : ∃ a, l1[k]? = some a := ⟨l1[k]'(by omega), List.getElem?_eq_getElem (by omega)⟩
        obtain ⟨b, hb⟩ : ∃ b, l2[k]? = some b := ⟨l2[k]'(by omega), List.getElem?_eq_getElem (by omega)⟩
        rcases G1.out with h0 | ⟨b1, o1, rfl, hc1⟩
        · omega
        rcases G2.out with h0 | ⟨b2, o2, rfl, hc2⟩
        · omega
        have x0 := hc1 _ _ (flat_get Val.len l1 k a ha 0 _ rfl)
        have x1 := hc1 _ _ (flat_get Val.len l1 k a ha 1 _ rfl)
        have x2 := hc1 _ _ (flat_get Val.len l1 k a ha 2 _ rfl)
        have y0 := hc2 _ _ (flat_get Val.len l2 k b hb 0 _ rfl)
        have y1 := hc2 _ _ (flat_get Val.len l2 k b hb 1 _ rfl)
        have y2 := hc2 _ _ (flat_get Val.len l2 k b hb 2 _ rfl)
        rw [Nat.add_zero] at x0 y0
        rw [← Nat.add_assoc] at x1 x2 y1 y2
        have HA := Lib.hid ha
        have HB := Lib.hid hb
        clear ha hb hc1 hc2
        by_cases hab : a = b
        · subst hab
          go_wp2_with fail
          go_quiet (fail)
          go_wp2_with fail
          go_roundw
          case rel => exact ⟨k + 1, by go_num, by omega, take_succ_eq HT.out HA.out HB.out, _, rfl⟩
          case measure => simp [intOf]; omega
        · have hv : valEqB a.t a.n a.s b.t b.n b.s = false := by rw [valEqB_val]; exact decide_eq_false hab
          have hne : decide (l1 = l2) = false := decide_eq_false (fun e => by
            have h1 := HA.out
            have h2 := HB.out
            rw [e, h2] at h1
            exact hab (Option.some.inj h1).symm)
          have HNE := Lib.hid hne
          clear hne
          go_wp2_with fail
          go_quiet (fail)
          go_wp2_with fail
          go_ret
          exact ⟨by rw [HNE.out]; rfl, _, World.drewN_drewN _ _ _⟩
      · have heq : decide (l1 = l2) = true := decide_eq_true (take_all_eq HT.out (by omega) (by omega))
        have HEQ := Lib.hid heq
        clear heq
        go_wp2_with fail
        go_ret
        exact ⟨by rw [HEQ.out]; rfl, n0, rfl⟩
  · have hne : decide (l1 = l2) = false := decide_eq_false (fun e => hlen (by rw [e]))
    have hbe : ((l1.length : Int) == (l2.length : Int)) = false := by simp; omega
    have HNE := Lib.hid hne
    clear hne g1 g2
    go_enter Try.func19, Try.ntmps19
    go_wp2_with fail
    go_ret
    exact ⟨by rw [HNE.out]; rfl, 0, rfl⟩
end Go.Proofs.Ytokcpmeoiblpfaa
