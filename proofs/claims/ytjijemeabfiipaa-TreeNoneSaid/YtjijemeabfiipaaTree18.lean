/- The reference's pairs: are two rows the same? -/
import Derived.Test.YtjijemeabfiipaaTree17
namespace Go.Proofs.Ytjijemeabfiipaa
open Go.ChangeShapes Go.WideShapes Go.ChangeAt Go.RowKit
set_option maxRecDepth 100000
set_option linter.unusedSimpArgs false

def pairEqB (a1 : Bool) (a2 : Int) (a3 : ByteArray) (a4 : Int) (b1 : Bool) (b2 : Int) (b3 : ByteArray) (b4 : Int) : Bool := decide (((⟨a1, a2, a3⟩, a4) : Val × VT) = (⟨b1, b2, b3⟩, b4))
theorem pairEqB_val (a b : Val × VT) : pairEqB a.1.t a.1.n a.1.s a.2 b.1.t b.1.n b.1.s b.2 = decide (a = b) := rfl
@[go_sem] theorem pairEqB_same (a1 : Bool) (a2 : Int) (a3 : ByteArray) (a4 : Int) : pairEqB a1 a2 a3 a4 a1 a2 a3 a4 = true := by simp [pairEqB]

theorem equalIn_val9 (w : World) (a1 : Bool) (a2 : Int) (a3 : ByteArray) (b1 : Bool) (b2 : Int) (b3 : ByteArray) :
    (Op.equalIn 9999 24 (.agg #[.bool a1, .int .i64 a2, .string a3]) (.agg #[.bool b1, .int .i64 b2, .string b3])).run Try.prog w = .ok (valEqB a1 a2 a3 b1 b2 b3) w := by
  have hst : Try.prog.stoodInHeld 24 = false := by kernel_rfl
  have hu := Try.underlying24
  have hf : Try.prog.underlying 24 = some (.struct (Try.prog.fieldsOf 24)) := by unfold Program.fieldsOf; rw [hu]
  rw [show (9999 : Nat) = 9998 + 1 from rfl, run_equalIn_struct w 9998 _ _ _ hf hst]
  unfold Program.fieldsOf
  rw [hu]
  have e1 := run_equalIn_bool' (P := Try.prog) w 9997 4 a1 b1 Try.underlying4
  have e2 := run_equalIn_int (P := Try.prog) w 9997 2 .i64 .i64 a2 b2 Try.underlying2
  have e3 := run_equalIn_string (P := Try.prog) w 9997 9 a3 b3 Try.underlying9
  rw [toList_beq] at e3
  unfold valEqB
  by_cases h1 : a1 = b1
  · subst h1
    by_cases h2 : a2 = b2
    · subst h2
      by_cases h3 : a3 = b3
      · subst h3
        simp [Op.eqFields, part, isAgg, run_underlying Try.underlying4, run_underlying Try.underlying2, run_underlying Try.underlying9, e1, e2, e3]
      · simp [Op.eqFields, part, isAgg, run_underlying Try.underlying4, run_underlying Try.underlying2, run_underlying Try.underlying9, e1, e2, e3, h3]
    · simp [Op.eqFields, part, isAgg, run_underlying Try.underlying4, run_underlying Try.underlying2, run_underlying Try.underlying9, e1, e2, e3, h2]
  · simp [Op.eqFields, part, isAgg, run_underlying Try.underlying4, run_underlying Try.underlying2, run_underlying Try.underlying9, e1, e2, e3, h1]

theorem equalIn_pair (w : World) (a1 : Bool) (a2 : Int) (a3 : ByteArray) (a4 : Int) (b1 : Bool) (b2 : Int) (b3 : ByteArray) (b4 : Int) :
    (Op.equalIn 10000 tP (.agg #[.bool a1, .int .i64 a2, .string a3, .int .i64 a4]) (.agg #[.bool b1, .int .i64 b2, .string b3, .int .i64 b4])).run Try.prog w = .ok (pairEqB a1 a2 a3 a4 b1 b2 b3 b4) w := by
  have hst : Try.prog.stoodInHeld tP = false := by kernel_rfl
  have hu := Try.underlying39
  have hf : Try.prog.underlying tP = some (.struct (Try.prog.fieldsOf tP)) := by unfold Program.fieldsOf; rw [hu]
  rw [show (10000 : Nat) = 9999 + 1 from rfl, run_equalIn_struct w 9999 _ _ _ hf hst]
  unfold Program.fieldsOf
  rw [hu]
  have e1 := equalIn_val9 w a1 a2 a3 b1 b2 b3
  have e2 := run_equalIn_int (P := Try.prog) w 9998 3 .i64 .i64 a4 b4 Try.underlying3
  have e5 : pairEqB a1 a2 a3 a4 b1 b2 b3 b4 = (valEqB a1 a2 a3 b1 b2 b3 && (a4 == b4)) := by
    unfold pairEqB valEqB
    rw [show (a4 == b4) = decide (a4 = b4) from rfl, ← Bool.decide_and]
    exact decide_eq_decide.2 (by simp)
  rw [e5]
  have e6 := Try.sizeOf24 w
  by_cases h1 : valEqB a1 a2 a3 b1 b2 b3 = true
  · rw [h1] at e1 ⊢
    by_cases h2 : a4 = b4 <;> simp [h2, Op.eqFields, part, isAgg, run_underlying Try.underlying24, run_underlying Try.underlying3, e6, e1, e2] <;> (first | done | (subst h2; simp [e2]) | simp [e2, h2])
  · have h1' : valEqB a1 a2 a3 b1 b2 b3 = false := by simpa using h1
    rw [h1'] at e1 ⊢
    simp [Op.eqFields, part, isAgg, run_underlying Try.underlying24, run_underlying Try.underlying3, e6, e1, e2]
@[go_sem high] theorem run_neq_pair (w : World) (a1 : Bool) (a2 : Int) (a3 : ByteArray) (a4 : Int) (b1 : Bool) (b2 : Int) (b3 : ByteArray) (b4 : Int) :
    (binOp .neq tP (.agg #[.bool a1, .int .i64 a2, .string a3, .int .i64 a4]) (.agg #[.bool b1, .int .i64 b2, .string b3, .int .i64 b4])).run Try.prog w = .ok (.bool (!pairEqB a1 a2 a3 a4 b1 b2 b3 b4)) w := by
  rw [run_neq_struct, equalIn_pair]; rfl

theorem take_succ_eq {α : Type} {l1 l2 : List α} {k : Nat} {a : α} (h : l1.take k = l2.take k) (h1 : l1[k]? = some a) (h2 : l2[k]? = some a) : l1.take (k + 1) = l2.take (k + 1) := by
  rw [List.take_add_one, List.take_add_one, h, h1, h2]
theorem take_all_eq {α : Type} {l1 l2 : List α} {k : Nat} (h : l1.take k = l2.take k) (h1 : l1.length ≤ k) (h2 : l2.length ≤ k) : l1 = l2 := by
  rw [List.take_of_length_le h1, List.take_of_length_le h2] at h
  exact h
def PairRd (w : World) (v : Value) (l : PL) : Prop := Rd w 4 v l.length (l.flatMap pcells)
theorem PairRd.drewN {w : World} {v : Value} {l : PL} (h : PairRd w v l) (n : Nat) : PairRd (w.drewN n) v l := Rd.frame h (fun _ _ _ => rfl)

set_option maxHeartbeats 4000000 in
theorem psame_ok {w : World} {v1 v2 : Value} {l1 l2 : PL} (h1 : PairRd w v1 l1) (h2 : PairRd w v2 l2) :
    Calls Try.prog 15 #[v1, v2] w fun e w' => e = .returned (.bool (decide (l1 = l2))) ∧ ∃ n, w' = w.drewN n := by
  obtain ⟨_, m1, a1, c1, rfl, n1, _, _, g1⟩ := h1
  obtain ⟨_, m2, a2, c2, rfl, n2, _, _, g2⟩ := h2
  unfold maxLen at m1 m2
  by_cases hlen : l1.length = l2.length
  · rw [← hlen] at g2
    have G1 := Lib.hid g1
    have G2 := Lib.hid g2
    clear g1 g2
    generalize hL : l1.length = L at *
    rw [← hlen]
    go_enter Try.func15, Try.ntmps15
    go_wp2_with fail
    go_loopw [5] (fun i wr => ∃ k : Nat, i = .int .i64 k ∧ k ≤ L ∧ l1.take k = l2.take k ∧ ∃ n, wr = w.drewN n) (fun i _ => L - (intOf i).toNat)
    case atStart => exact ⟨0, rfl, by omega, rfl, 0, rfl⟩
    case round =>
      obtain ⟨k, rfl, hk, ht, n0, rfl⟩ := hrel
      have HT := Lib.hid ht
      clear ht
      by_cases hlt : k < L
      · obtain ⟨a, ha⟩ : ∃ a, l1[k]? = some a := ⟨l1[k]'(by omega), List.getElem?_eq_getElem (by omega)⟩
        obtain ⟨b, hb⟩ : ∃ b, l2[k]? = some b := ⟨l2[k]'(by omega), List.getElem?_eq_getElem (by omega)⟩
        rcases G1.out with h0 | ⟨b1, o1, rfl, hc1⟩
        · omega
        rcases G2.out with h0 | ⟨b2, o2, rfl, hc2⟩
        · omega
        have x0 := hc1 _ _ (flat_get plen l1 k a ha 0 _ rfl)
        have x1 := hc1 _ _ (flat_get plen l1 k a ha 1 _ rfl)
        have x2 := hc1 _ _ (flat_get plen l1 k a ha 2 _ rfl)
        have x3 := hc1 _ _ (flat_get plen l1 k a ha 3 _ rfl)
        have y0 := hc2 _ _ (flat_get plen l2 k b hb 0 _ rfl)
        have y1 := hc2 _ _ (flat_get plen l2 k b hb 1 _ rfl)
        have y2 := hc2 _ _ (flat_get plen l2 k b hb 2 _ rfl)
        have y3 := hc2 _ _ (flat_get plen l2 k b hb 3 _ rfl)
        rw [Nat.add_zero] at x0 y0
        rw [← Nat.add_assoc] at x1 x2 x3 y1 y2 y3
        have HA := Lib.hid ha
        have HB := Lib.hid hb
        clear ha hb hc1 hc2
        by_cases hab : a = b
        · subst hab
          go_wp2_with fail
          go_quiet (fail)
          go_wp2_with fail
          go_roundw
          case rel => exact ⟨k + 1, by go_num, by omega, take_succ_eq HT.out HA.out HB.out, _, rfl⟩
          case measure => simp [intOf]; omega
        · have hv : pairEqB a.1.t a.1.n a.1.s a.2 b.1.t b.1.n b.1.s b.2 = false := by rw [pairEqB_val]; exact decide_eq_false hab
          have hne : decide (l1 = l2) = false := decide_eq_false (fun e => by
            have h1 := HA.out
            have h2 := HB.out
            rw [e, h2] at h1
            exact hab (Option.some.inj h1).symm)
          have HNE := Lib.hid hne
          clear hne
          go_wp2_with fail
          go_quiet (fail)
          go_wp2_with fail
          go_ret
          exact ⟨by rw [HNE.out]; rfl, _, World.drewN_drewN _ _ _⟩
      · have heq : decide (l1 = l2) = true := decide_eq_true (take_all_eq HT.out (by omega) (by omega))
        have HEQ := Lib.hid heq
        clear heq
        go_wp2_with fail
        go_ret
        exact ⟨by rw [HEQ.out]; rfl, n0, rfl⟩
  · have hne : decide (l1 = l2) = false := decide_eq_false (fun e => hlen (by rw [e]))
    have hbe : ((l1.length : Int) == (l2.length : Int)) = false := by simp; omega
    have HNE := Lib.hid hne
    clear hne g1 g2
    go_enter Try.func15, Try.ntmps15
    go_wp2_with fail
    go_ret
    exact ⟨by rw [HNE.out]; rfl, 0, rfl⟩
end Go.Proofs.Ytjijemeabfiipaa
