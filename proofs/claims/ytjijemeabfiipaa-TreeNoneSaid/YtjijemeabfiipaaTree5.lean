/- The tree: contract of put. -/
import Derived.Test.YtjijemeabfiipaaTree4
namespace Go.Proofs.Ytjijemeabfiipaa
open Go.ChangeShapes Go.WideShapes Go.ChangeAt Go.RowKit
set_option maxRecDepth 100000
set_option linter.unusedSimpArgs false

/-- may node kid, at place c below i, be split? -/
def TM.maySplit (T : TM) (i c kid : Nat) (mi mk : NodeM) : Prop :=
  i ≠ kid ∧ (∀ x, T.free.getLast? = some x → x < T.nodes.length ∧ x ≠ i ∧ x ≠ kid) ∧ T.nodes.length ≤ 1000000 ∧ T.free.length ≤ 1000000 ∧ mk.keys.length ≤ 1000 ∧ c ≤ mi.keys.length ∧ mi.kids.length = mi.keys.length + 1 ∧ mi.keys.length ≤ 1000 ∧
    3 ≤ mk.keys.length ∧ (mk.leaf = true → mk.vals.length = mk.keys.length) ∧ (mk.leaf = false → mk.kids.length = mk.keys.length + 1)
/-- T' is what is left of T when the node at place c below i is split -/
def TM.Split (T : TM) (i c : Nat) (T' : TM) : Prop :=
  ∃ mi kid mk sep, T.nodes[i]? = some mi ∧ mi.kids[c]? = some kid ∧ T.nodes[kid]? = some mk ∧ mk.keys[mk.keys.length / 2]? = some sep ∧ T.maySplit i c kid mi mk ∧ T' = (T.slot mk.leaf).2.spl (T.slot mk.leaf).1 i kid c mi mk sep

theorem split_ok {B w : World} {D : PH} {t : Nat} {T T' : TM} {l : List HP} {i c : Nat} (hs : T.Split i c T') (h : TreeA B D w t T l) :
    Calls Try.prog 31 #[.pointer (some ⟨t, 0, none⟩), .int .i64 i, .int .i64 c] w fun e w' => e = .returned (.tuple #[]) ∧ TreeA B D w' t T' l := by
  obtain ⟨mi, kid, mk, sep, h1, h2, h3, h4, ⟨g1, g2, g3, g4, g5, g6, g7, g8, g9, g10, g11⟩, rfl⟩ := hs
  cases hl : mk.leaf
  · have := split_node (nw := (T.slot mk.leaf).1) (T1 := (T.slot mk.leaf).2) rfl h4 h1 h2 h3 g1 hl g2 g3 g4 g9 g5 (g11 hl) g6 g7 g8 h
    rw [hl] at this
    exact this
  · have := split_leaf (nw := (T.slot mk.leaf).1) (T1 := (T.slot mk.leaf).2) rfl h4 h1 h2 h3 g1 hl g2 g3 g4 (by omega) g5 (g10 hl) g6 g7 g8 h
    rw [hl] at this
    exact this

/-- what stands at one place of a node is another now -/
theorem TreeS.val_set {B w : World} {D : PH} {t N g c vg nk ck : Nat} {fv : Value} {ns : List NP} {fr : List Nat} {k : Num} {l : List HP} (h : TreeS B D w t (.slice (some ⟨g, 0, none⟩) N c) fv ns fr k l) {i : Nat} {p : NP} (hi : ns[i]? = some p) (hk : p.1.vv = .slice (some ⟨vg, 0, none⟩) nk ck) (j : Nat) (v : VT) (_hj : j < p.2.vals.length) :
    TreeS B D (w.setCell ⟨vg, j, none⟩ (.int .i64 v)) t (.slice (some ⟨g, 0, none⟩) N c) fv (ns.set i (p.1, { p.2 with vals := p.2.vals.set j v })) fr k l := by
  obtain rfl := row_len (Sat.own h 1 rfl)
  have h1 := (h.focus hi).swap
  rw [hk] at h1
  obtain ⟨_, _, hv, hc, _⟩ := (h1.own 0 rfl).rd.2.2
  cases hv
  have h2 := (h1.own_set j (.int .i64 v) rfl).swap
  have e : ∀ (vs : List VT) (j : Nat), (vs.flatMap vcells).set j (.int .i64 v) = (vs.set j v).flatMap vcells := by
    intro vs
    induction vs with
    | nil => intro j; simp
    | cons x vs ih => intro j; cases j with
      | zero => simp [vcells]
      | succ j => simp only [List.flatMap_cons, vcells, List.cons_append, List.nil_append, List.set_cons_succ]; rw [← ih]
  rw [e] at h2
  have e2 : (p.2.vals.set j v).length = p.2.vals.length := List.length_set
  have h3 : (ns.set i (p.1, { p.2 with vals := p.2.vals.set j v })).flatMap nodeCells = ns.flatMap nodeCells := by
    have hlt := (List.getElem?_eq_some_iff.1 hi).1
    have := node_set 0 p (p.1, { p.2 with vals := p.2.vals.set j v }) (.bool p.2.leaf) (by omega) rfl ns i hi
    rw [← this, Nat.add_zero]
    refine List.ext_getElem? (fun q => ?_)
    by_cases hq : q = i * 4
    · subst hq
      rw [List.getElem?_set_self (by rw [flat_len nodeLen]; omega)]
      have := flat_get nodeLen ns i p hi 0 _ rfl
      rw [Nat.add_zero] at this
      exact this.symm
    · rw [List.getElem?_set_ne (fun h => hq h.symm)]
  refine TreeS.unfocus (p' := (p.1, { p.2 with vals := p.2.vals.set j v })) hi ?_
  rw [h3, hk]
  unfold valsP
  dsimp only
  rw [e2]
  exact h2
end Go.Proofs.Ytjijemeabfiipaa
