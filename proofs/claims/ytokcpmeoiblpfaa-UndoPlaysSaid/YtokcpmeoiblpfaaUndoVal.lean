/- Two values (api.Value) compared by the program. -/
import Derived.Test.YtokcpmeoiblpfaaUndoMem
namespace Go.Proofs.Ytokcpmeoiblpfaa
open Go.ChangeShapes Go.WideShapes Go.ChangeAt Go.RowKit
set_option maxRecDepth 100000
set_option linter.unusedSimpArgs false

/-- are two values the same? -/
def valEqB (a1 : Bool) (a2 : Int) (a3 : ByteArray) (b1 : Bool) (b2 : Int) (b3 : ByteArray) : Bool := decide ((⟨a1, a2, a3⟩ : Val) = ⟨b1, b2, b3⟩)
theorem valEqB_val (a b : Val) : valEqB a.t a.n a.s b.t b.n b.s = decide (a = b) := rfl
@[go_sem] theorem valEqB_same (a1 : Bool) (a2 : Int) (a3 : ByteArray) : valEqB a1 a2 a3 a1 a2 a3 = true := by simp [valEqB]

theorem toList_beq (a b : ByteArray) : (a.toList == b.toList) = decide (a = b) := by
  rw [ByteArray.toList_eq, ByteArray.toList_eq]
  by_cases h : a = b
  · subst h; simp
  · rw [decide_eq_false h]
    have : a.data.toList ≠ b.data.toList := fun e => h (by obtain ⟨⟨x⟩⟩ := a; obtain ⟨⟨y⟩⟩ := b; simp at e; subst e; rfl)
    simpa using this

theorem equalIn_val (w : World) (a1 : Bool) (a2 : Int) (a3 : ByteArray) (b1 : Bool) (b2 : Int) (b3 : ByteArray) :
    (Op.equalIn 10000 23 (.agg #[.bool a1, .int .i64 a2, .string a3]) (.agg #[.bool b1, .int .i64 b2, .string b3])).run Try.prog w = .ok (valEqB a1 a2 a3 b1 b2 b3) w := by
  have hst : Try.prog.stoodInHeld 23 = false := by kernel_rfl
  have hu := Try.underlying23
  have hf : Try.prog.underlying 23 = some (.struct (Try.prog.fieldsOf 23)) := by unfold Program.fieldsOf; rw [hu]
  rw [show (10000 : Nat) = 9999 + 1 from rfl, run_equalIn_struct w 9999 _ _ _ hf hst]
  unfold Program.fieldsOf
  rw [hu]
  have e1 := run_equalIn_bool' (P := Try.prog) w 9998 4 a1 b1 Try.underlying4
  have e2 := run_equalIn_int (P := Try.prog) w 9998 2 .i64 .i64 a2 b2 Try.underlying2
  have e3 := run_equalIn_string (P := Try.prog) w 9998 9 a3 b3 Try.underlying9
  rw [toList_beq] at e3
  unfold valEqB
  by_cases h1 : a1 = b1
  · subst h1
    by_cases h2 : a2 = b2
    · subst h2
      by_cases h3 : a3 = b3
      · subst h3
        simp [Op.eqFields, part, isAgg, run_underlying Try.underlying4, run_underlying Try.underlying2, run_underlying Try.underlying9, e1, e2, e3]
      · simp [Op.eqFields, part, isAgg, run_underlying Try.underlying4, run_underlying Try.underlying2, run_underlying Try.underlying9, e1, e2, e3, h3]
    · simp [Op.eqFields, part, isAgg, run_underlying Try.underlying4, run_underlying Try.underlying2, run_underlying Try.underlying9, e1, e2, e3, h2]
  · simp [Op.eqFields, part, isAgg, run_underlying Try.underlying4, run_underlying Try.underlying2, run_underlying Try.underlying9, e1, e2, e3, h1]

@[go_sem high] theorem run_eql_val (w : World) (a1 : Bool) (a2 : Int) (a3 : ByteArray) (b1 : Bool) (b2 : Int) (b3 : ByteArray) :
    (binOp .eql 23 (.agg #[.bool a1, .int .i64 a2, .string a3]) (.agg #[.bool b1, .int .i64 b2, .string b3])).run Try.prog w = .ok (.bool (valEqB a1 a2 a3 b1 b2 b3)) w := by
  rw [run_eql_struct, equalIn_val]; rfl
@[go_sem high] theorem run_neq_val (w : World) (a1 : Bool) (a2 : Int) (a3 : ByteArray) (b1 : Bool) (b2 : Int) (b3 : ByteArray) :
    (binOp .neq 23 (.agg #[.bool a1, .int .i64 a2, .string a3]) (.agg #[.bool b1, .int .i64 b2, .string b3])).run Try.prog w = .ok (.bool (!valEqB a1 a2 a3 b1 b2 b3)) w := by
  rw [run_neq_struct, equalIn_val]; rfl
end Go.Proofs.Ytokcpmeoiblpfaa
