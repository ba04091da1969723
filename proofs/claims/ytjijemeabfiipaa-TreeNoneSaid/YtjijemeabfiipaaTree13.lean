/- The tree: contract of through, at any node. -/
import Derived.Test.YtjijemeabfiipaaTree12
namespace Go.Proofs.Ytjijemeabfiipaa
open Go.ChangeShapes Go.WideShapes Go.ChangeAt Go.RowKit
set_option maxRecDepth 100000
set_option linter.unusedSimpArgs false

/-- what is told below a node -/
inductive TM.Walks (T : TM) (s : Spn) : Nat → List (Val × VT) → Prop
  | leaf {i : Nat} {m : NodeM} (hi : T.nodes[i]? = some m) (hl : m.leaf = true) (hv : m.vals.length = m.keys.length) (hkb : m.keys.length ≤ 1000) : TM.Walks T s i (m.tell s m.keys.length)
  | inner {i : Nat} {m : NodeM} (hi : T.nodes[i]? = some m) (hl : m.leaf = false) (hkb : m.keys.length ≤ 1000) (hdl : m.kids.length = m.keys.length + 1) (n : Nat) (f : Nat → List (Val × VT)) (hn : m.start s + n ≤ m.kids.length)
      (hgo : ∀ j, j < n → 0 < j → m.past s (m.start s + j - 1) = false) (hstop : m.start s + n = m.kids.length ∨ (0 < n ∧ m.past s (m.start s + n - 1) = true))
      (ih : ∀ j kid, j < n → m.kids[m.start s + j]? = some kid → TM.Walks T s kid (f j)) : TM.Walks T s i (tells f n)

theorem through_ok {n₀ : Nat} {Ow : World → Nat → Prop} (hO : Owner n₀ Ow) {t l N : Nat} {T : TM} {s : Spn} {J Jx : List (Val × VT) → World → Prop}
    (hJ : ∀ pre W W', J pre W → Kept (fun _ => False) W W' → J pre W')
    (hY : ∀ n pre x W, J pre W → pre.length < N → YieldAt Fence.wide n Try.prog l #[x.1.v, .int .i64 x.2] W fun e W' => (e = .returned (.bool true) ∧ J (pre ++ [x]) W' ∧ KpO Ow W W') ∨ (e = .returned (.bool false) ∧ Jx (pre ++ [x]) W'))
    {i : Nat} {q : List (Val × VT)} (hw : T.Walks s i q) : ∀ (D : PH), TreeP D t T → ∀ (pre : List (Val × VT)) (W : World), J pre W → pre.length + q.length ≤ N → ItOk n₀ Ow D W →
    Calls Try.prog 33 #[.pointer (some ⟨t, 0, none⟩), .int .i64 i, s.v, .func (.yield l) #[] #[]] W fun e W' =>
      (e = .returned (.bool true) ∧ J (pre ++ q) W' ∧ ItOk n₀ Ow D W') ∨ (e = .returned (.bool false) ∧ ∃ p, p <+: q ∧ Jx (pre ++ p) W') := by
  induction hw with
  | leaf hi hl hv hkb => intro D hT pre W hj hN hit; exact through_leaf hO hJ hY hi hl hv hkb hT pre W hj hN hit
  | inner hi hl hkb hdl n f hn hgo hstop _ ih =>
    intro D hT pre W hj hN hit
    cases hlo : s.hasLo
    · exact through_nolo hO hJ hi hl hkb hdl hlo n f hn hgo hstop ih hT pre W hj hN hit
    · exact through_lo hO hJ hi hl hkb hdl hlo n f hn hgo hstop ih hT pre W hj hN hit
end Go.Proofs.Ytjijemeabfiipaa
