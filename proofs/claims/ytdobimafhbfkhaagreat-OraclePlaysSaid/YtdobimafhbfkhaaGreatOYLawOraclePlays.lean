/- The law OraclePlays of layer 15, for every input: it returns true. -/
import Derived.Test.YtdobimafhbfkhaaGreatOY1
import Derived.Test.YtdobimafhbfkhaaGreatOY51
import Derived.Test.YtdobimafhbfkhaaGreatOY39
namespace Go.Proofs.YtdobimafhbfkhaaGreat.oraclePlays
open Go.ChangeShapes Go.WideShapes Go.ChangeAt Go.RowKit
set_option linter.unusedSimpArgs false

theorem own : ownKnob Tryz.prog.godebug = none := by kernel_rfl
theorem laidOut : laidOutB Tryz.prog = true := by kernel_rfl

set_option maxRecDepth 100000 in
theorem contract (H : Type) (enc : TypeId × Value → H) (W : World) (base : Nat) (args : Array Value) (ds gs : List (DataW H)) (before : List MemPlace)
  (hval : ∀ (j : Nat) t v, Tryz.f4.params[j]? = some t → args[j]? = some v → Value.okWide Tryz.prog W .any base t v)
  (hW : DataW.Whole enc Tryz.prog Tryz.f4.params.toList Rows.oraclePlaysSpec.vars false W args.toList ds gs before)
  (hz : (DataW.weightsEach Tryz.prog (Tryz.f4.params.toList ++ Rows.oraclePlaysSpec.plain.varTypes Tryz.prog) (ds ++ gs)).all (· ≤ reachBytes) = true) :
  Calls Tryz.prog 4 args W fun e W' => ∃ v, e = .returned v ∧ Rows.oraclePlaysSpec.post enc Tryz.prog Tryz.f4 false true false false W args v W' := by
 have hW' := hW
 obtain ⟨p, q, hA0, hV, rfl, hfz, hnd⟩ := hW
 have hA : DataW.TrodAll enc Tryz.prog W 0 (fun _ => true) true Tryz.f4.params.toList args.toList ds p := hA0
 rw [Tryz.params4] at hA hval hz
 obtain ⟨v0, vs0, d0, ds0, p0, q0, hargs, rfl, rfl, h0, r0⟩ := trodAll_cons hA
 obtain ⟨v1, vs1, d1, ds1, p1, q1, rfl, rfl, rfl, h1, r1⟩ := trodAll_cons r0
 obtain ⟨rfl, rfl, rfl⟩ := trodAll_nil r1
 obtain rfl : args = #[v0, v1] := by cases args; simp_all
 obtain ⟨rfl, rfl⟩ := trodVars_none hV
 obtain ⟨a0, n0, c0, rfl⟩ := okWide_slice Tryz.underlying22 (hval 0 22 v0 rfl rfl)
 obtain ⟨fuel0, hf0⟩ := h0
 obtain ⟨u0, ts, hc0, ht⟩ := rN hf0
 obtain rfl : u0 = .slice a0 n0 c0 := by simpa [Value.cells] using hc0.symm
 obtain ⟨a1, n1, c1, rfl⟩ := okWide_slice Tryz.underlying38 (hval 1 38 v1 rfl rfl)
 obtain ⟨fuel1, hf1⟩ := h1
 obtain ⟨u1, l, hc1, hl⟩ := vm hf1
 obtain rfl : u1 = .slice a1 n1 c1 := by simpa [Value.cells] using hc1.symm
 clear hA0
 refine (uW ht hl).mono (fun e W' ⟨he, hb⟩ => ?_)
 subst he
 exact ⟨_, rfl, vK laidOut (by kernel_rfl) rfl Tryz.underlying4 rfl hW' rfl rfl rfl (hb.below (Gn _) (fun _ h => h.elim))⟩

set_option maxRecDepth 100000 in
theorem lifted (os : Os) (started : os.Started) (H : Type) (enc : TypeId × Value → H) :
  ReturnsInHanded {} Tryz.checked os 4 .any (Rows.oraclePlaysSpec.pre6 enc Tryz.prog Tryz.f4 Rows.oraclePlaysRow.domain false) (Rows.oraclePlaysSpec.post enc Tryz.prog Tryz.f4 false true false false) := by
 refine returnsInHanded_of_change_sized (C := Tryz.checked) own started (by kernel_rfl) Tryz.func4
  (ChangeSpec.witness6 (enc := enc) (C := Tryz.checked) false ⟨#[], #[.slice none 0 0, .slice none 0 0], []⟩ 8 (by kernel_rfl) (by kernel_rfl) (by kernel_rfl) (by kernel_rfl)) ?_
 intro W base args ds gs before hval hW _ hz _
 exact contract H enc W base args ds gs before hval hW hz

theorem said : Rows.OraclePlaysSaid :=
 OpenClaim.holds_of_wide 4 Tryz.f4 rfl rfl rfl rfl rfl rfl rfl ⟨rfl, rfl, rfl, rfl, rfl⟩ rfl rfl rfl rfl rfl (by kernel_rfl) Tryz.func4 (by kernel_rfl)
  (of_decide_eq_true (by kernel_rfl)) (by unfold Func.isWrapper; first | (rw [if_pos (by decide +kernel)]; kernel_rfl) | (rw [if_neg (by decide +kernel)]; exact ⟨rfl, rfl⟩))
  (fun os started H enc _ => lifted os started H enc)
end Go.Proofs.YtdobimafhbfkhaaGreat.oraclePlays
