/- Values (api.Value): their cells; compared by the program. -/
import Derived.Test.YtjijemeabfiipaaOpen
import Derived.Test.YtjijemeabfiipaaSepLib
namespace Go.Proofs.Ytjijemeabfiipaa
open Go.ChangeShapes Go.WideShapes Go.ChangeAt Go.RowKit
set_option maxRecDepth 100000
set_option linter.unusedSimpArgs false

/-- api.Value -/
structure Val where
  t : Bool
  n : Int
  s : ByteArray
deriving DecidableEq
instance : Inhabited Val := ⟨⟨false, 0, ⟨#[]⟩⟩⟩
def Val.cells (v : Val) : List Value := [.bool v.t, .int .i64 v.n, .string v.s]
def Val.wf (v : Val) : Prop := (Lit.int .i64 v.n).wf = true ∧ v.s.size ≤ maxLen
theorem Val.len (v : Val) : v.cells.length = 3 := rfl
theorem Val.one (v : Val) : ∀ u ∈ v.cells, u.oneCell' = true := by intro u hu; simp [Val.cells] at hu; rcases hu with rfl | rfl | rfl <;> rfl
/-- a value in a slot -/
abbrev Val.v (x : Val) : Value := .agg #[.bool x.t, .int .i64 x.n, .string x.s]

/-- are two values the same? -/
def valEqB (a1 : Bool) (a2 : Int) (a3 : ByteArray) (b1 : Bool) (b2 : Int) (b3 : ByteArray) : Bool := decide ((⟨a1, a2, a3⟩ : Val) = ⟨b1, b2, b3⟩)
theorem valEqB_val (a b : Val) : valEqB a.t a.n a.s b.t b.n b.s = decide (a = b) := rfl
@[go_sem] theorem valEqB_same (a1 : Bool) (a2 : Int) (a3 : ByteArray) : valEqB a1 a2 a3 a1 a2 a3 = true := by simp [valEqB]

theorem toList_beq (a b : ByteArray) : (a.toList == b.toList) = decide (a = b) := by
  rw [ByteArray.toList_eq, ByteArray.toList_eq]
  by_cases h : a = b
  · subst h; simp
  · rw [decide_eq_false h]
    have : a.data.toList ≠ b.data.toList := fun e => h (by obtain ⟨⟨x⟩⟩ := a; obtain ⟨⟨y⟩⟩ := b; simp at e; subst e; rfl)
    simpa using this

theorem equalIn_val (w : World) (a1 : Bool) (a2 : Int) (a3 : ByteArray) (b1 : Bool) (b2 : Int) (b3 : ByteArray) :
    (Op.equalIn 10000 24 (.agg #[.bool a1, .int .i64 a2, .string a3]) (.agg #[.bool b1, .int .i64 b2, .string b3])).run Try.prog w = .ok (valEqB a1 a2 a3 b1 b2 b3) w := by
  have hst : Try.prog.stoodInHeld 24 = false := by kernel_rfl
  have hu := Try.underlying24
  have hf : Try.prog.underlying 24 = some (.struct (Try.prog.fieldsOf 24)) := by unfold Program.fieldsOf; rw [hu]
  rw [show (10000 : Nat) = 9999 + 1 from rfl, run_equalIn_struct w 9999 _ _ _ hf hst]
  unfold Program.fieldsOf
  rw [hu]
  have e1 := run_equalIn_bool' (P := Try.prog) w 9998 4 a1 b1 Try.underlying4
  have e2 := run_equalIn_int (P := Try.prog) w 9998 2 .i64 .i64 a2 b2 Try.underlying2
  have e3 := run_equalIn_string (P := Try.prog) w 9998 9 a3 b3 Try.underlying9
  rw [toList_beq] at e3
  unfold valEqB
  by_cases h1 : a1 = b1
  · subst h1
    by_cases h2 : a2 = b2
    · subst h2
      by_cases h3 : a3 = b3
      · subst h3
        simp [Op.eqFields, part, isAgg, run_underlying Try.underlying4, run_underlying Try.underlying2, run_underlying Try.underlying9, e1, e2, e3]
      · simp [Op.eqFields, part, isAgg, run_underlying Try.underlying4, run_underlying Try.underlying2, run_underlying Try.underlying9, e1, e2, e3, h3]
    · simp [Op.eqFields, part, isAgg, run_underlying Try.underlying4, run_underlying Try.underlying2, run_underlying Try.underlying9, e1, e2, e3, h2]
  · simp [Op.eqFields, part, isAgg, run_underlying Try.underlying4, run_underlying Try.underlying2, run_underlying Try.underlying9, e1, e2, e3, h1]

@[go_sem high] theorem run_eql_val (w : World) (a1 : Bool) (a2 : Int) (a3 : ByteArray) (b1 : Bool) (b2 : Int) (b3 : ByteArray) :
    (binOp .eql 24 (.agg #[.bool a1, .int .i64 a2, .string a3]) (.agg #[.bool b1, .int .i64 b2, .string b3])).run Try.prog w = .ok (.bool (valEqB a1 a2 a3 b1 b2 b3)) w := by
  rw [run_eql_struct, equalIn_val]; rfl
@[go_sem high] theorem run_neq_val (w : World) (a1 : Bool) (a2 : Int) (a3 : ByteArray) (b1 : Bool) (b2 : Int) (b3 : ByteArray) :
    (binOp .neq 24 (.agg #[.bool a1, .int .i64 a2, .string a3]) (.agg #[.bool b1, .int .i64 b2, .string b3])).run Try.prog w = .ok (.bool (!valEqB a1 a2 a3 b1 b2 b3)) w := by
  rw [run_neq_struct, equalIn_val]; rfl

/-! ### their order -/
def cmpI (a b : Int) : Int := if a < b then -1 else if b < a then 1 else 0
def cmpS (a b : ByteArray) : Int := if Op.bytesLess a.toList b.toList then -1 else if a.toList == b.toList then 0 else 1
def valCmp (a b : Val) : Int := if a.t && b.t then cmpS a.s b.s else if a.t then 1 else if b.t then -1 else cmpI a.n b.n

theorem nanI (a : Int) (w : World) : Calls Try.prog 61 #[.int .i64 a] w fun e w' => e = .returned (.bool false) ∧ w = w' := by
  go_enter Try.func61, Try.ntmps61
  go_wp2_with fail
  go_ret
  exact ⟨by simp, rfl⟩
theorem nanS (a : ByteArray) (w : World) : Calls Try.prog 60 #[.string a] w fun e w' => e = .returned (.bool false) ∧ w = w' := by
  go_enter Try.func60, Try.ntmps60
  go_wp2_with fail
  go_ret
  exact ⟨by simp, rfl⟩
set_option maxHeartbeats 1000000 in
theorem cmpI_ok (a b : Int) (w : World) : Calls Try.prog 52 #[.int .i64 a, .int .i64 b] w fun e w' => e = .returned (.int .i64 (cmpI a b)) ∧ w = w' := by
  have h3 : a < b ∨ (¬ a < b ∧ b < a) ∨ (¬ a < b ∧ ¬ b < a) := by omega
  rcases h3 with h | ⟨h, h'⟩ | ⟨h, h'⟩
  · have e : cmpI a b = -1 := by unfold cmpI; rw [if_pos h]
    have E := Lib.hid e
    clear e
    go_enter Try.func52, Try.ntmps52
    go_wp2_with ((go_at_call 61; refine (nanI _ _).mono ?_; rintro e w' ⟨rfl, rfl⟩))
    go_ret
    exact ⟨by rw [E.out]; rfl, rfl⟩
  · have e : cmpI a b = 1 := by unfold cmpI; rw [if_neg h, if_pos h']
    have E := Lib.hid e
    clear e
    go_enter Try.func52, Try.ntmps52
    go_wp2_with ((go_at_call 61; refine (nanI _ _).mono ?_; rintro e w' ⟨rfl, rfl⟩))
    go_ret
    exact ⟨by rw [E.out]; rfl, rfl⟩
  · have e : cmpI a b = 0 := by unfold cmpI; rw [if_neg h, if_neg h']
    have E := Lib.hid e
    clear e
    go_enter Try.func52, Try.ntmps52
    go_wp2_with ((go_at_call 61; refine (nanI _ _).mono ?_; rintro e w' ⟨rfl, rfl⟩))
    go_ret
    exact ⟨by rw [E.out]; rfl, rfl⟩
set_option maxHeartbeats 1000000 in
theorem cmpS_ok (a b : ByteArray) (w : World) : Calls Try.prog 51 #[.string a, .string b] w fun e w' => e = .returned (.int .i64 (cmpS a b)) ∧ w = w' := by
  by_cases h : Op.bytesLess a.toList b.toList = true
  · have e : cmpS a b = -1 := by unfold cmpS; rw [if_pos h]
    have E := Lib.hid e
    clear e
    go_enter Try.func51, Try.ntmps51
    go_wp2_with ((go_at_call 60; refine (nanS _ _).mono ?_; rintro e w' ⟨rfl, rfl⟩))
    go_ret
    exact ⟨by rw [E.out]; rfl, rfl⟩
  · have hf : Op.bytesLess a.toList b.toList = false := by simpa using h
    by_cases h2 : (a.toList == b.toList) = true
    · have e : cmpS a b = 0 := by unfold cmpS; rw [if_neg h, if_pos h2]
      have E := Lib.hid e
      clear e h
      go_enter Try.func51, Try.ntmps51
      go_wp2_with ((go_at_call 60; refine (nanS _ _).mono ?_; rintro e w' ⟨rfl, rfl⟩))
      go_ret
      exact ⟨by rw [E.out]; rfl, rfl⟩
    · have h3 : (a.toList == b.toList) = false := by simpa using h2
      have e : cmpS a b = 1 := by unfold cmpS; rw [if_neg h, if_neg h2]
      have E := Lib.hid e
      clear e h h2
      go_enter Try.func51, Try.ntmps51
      go_wp2_with ((go_at_call 60; refine (nanS _ _).mono ?_; rintro e w' ⟨rfl, rfl⟩))
      go_ret
      exact ⟨by rw [E.out]; rfl, rfl⟩

set_option maxHeartbeats 1000000 in
theorem compare_ok (a b : Val) (w : World) : Calls Try.prog 41 #[a.v, b.v] w fun e w' => e = .returned (.int .i64 (valCmp a b)) ∧ Kept (fun _ => False) w w' := by
  obtain ⟨at_, an, as_⟩ := a
  obtain ⟨bt, bn, bs⟩ := b
  have hk : Kept (fun _ => False) w ((w.alloc (.cells #[.bool at_, .int .i64 an, .string as_] 24)).alloc (.cells #[.bool bt, .int .i64 bn, .string bs] 24)) := ((Kept.refl _ _).alloc _).alloc _
  have HK := Lib.hid hk
  clear hk
  cases at_ <;> cases bt
  all_goals
    go_enter Try.func41, Try.ntmps41
    go_wp2_with (first | (go_at_call 51; refine (cmpS_ok _ _ _).mono ?_; rintro e w' ⟨rfl, rfl⟩) | (go_at_call 52; refine (cmpI_ok _ _ _).mono ?_; rintro e w' ⟨rfl, rfl⟩))
    go_ret
    exact ⟨rfl, HK.out⟩

/-- may this value be? -/
def valRight (v : Val) : Bool := if v.t then decide (v.n = 0) && decide (v.s.size ≤ 12) else decide (v.s = ⟨#[]⟩)
set_option maxHeartbeats 1000000 in
theorem right_ok (v : Val) (w : World) : Calls Try.prog 27 #[v.v] w fun e w' => e = .returned (.bool (valRight v)) ∧ Kept (fun _ => False) w w' := by
  obtain ⟨t, n, s⟩ := v
  have hk : Kept (fun _ => False) w (w.alloc (.cells #[.bool t, .int .i64 n, .string s] 24)) := (Kept.refl _ _).alloc _
  have HK := Lib.hid hk
  clear hk
  cases t
  · have e : valEqB false n s false n ⟨#[]⟩ = valRight ⟨false, n, s⟩ := by simp [valEqB, valRight]
    have E := Lib.hid e
    clear e
    go_enter Try.func27, Try.ntmps27
    go_wp2_with fail
    go_ret
    exact ⟨by rw [← E.out]; rfl, HK.out⟩
  · by_cases h : n = 0
    · subst h
      by_cases hs : (s.size : Int) ≤ 12
      · have E := Lib.hid (show valRight ⟨true, 0, s⟩ = true by simp [valRight]; omega)
        go_enter Try.func27, Try.ntmps27
        go_wp2_with fail
        go_ret
        exact ⟨by rw [E.out]; rfl, HK.out⟩
      · have E := Lib.hid (show valRight ⟨true, 0, s⟩ = false by simp [valRight]; omega)
        go_enter Try.func27, Try.ntmps27
        go_wp2_with fail
        go_ret
        exact ⟨by rw [E.out]; rfl, HK.out⟩
    · have hv : valEqB true n s true 0 s = false := by simp [valEqB, h]
      have E := Lib.hid (show valRight ⟨true, n, s⟩ = false by simp [valRight, h])
      go_enter Try.func27, Try.ntmps27
      go_wp2_with fail
      go_ret
      exact ⟨by rw [E.out]; rfl, HK.out⟩
end Go.Proofs.Ytjijemeabfiipaa
