/- The tree: Range, and what it hands back. -/
import Derived.Test.YtjijemeabfiipaaTree13
import Derived.Test.YtjijemeabfiipaaBoxRow
namespace Go.Proofs.Ytjijemeabfiipaa
open Go.ChangeShapes Go.WideShapes Go.ChangeAt Go.RowKit
set_option maxRecDepth 100000
set_option linter.unusedSimpArgs false

/-- where a tree is owned, it may be read from a heap that has its cells -/
theorem TreeA.pool {B w : World} {D E : PH} {t : Nat} {T : TM} {l : List HP} (h : TreeA B D w t T l) (hE : PH.le (cellsOf (heapOf w)) E) : TreeP E t T := by
  obtain ⟨nv, fv, ns, hns, hs⟩ := h
  refine ⟨nv, fv, ns, hns, fun W hW => ⟨[], Sat.inPool (l := [blk t (treeCells nv fv T.k) tT, ownS tN 4 nv ns.length (ns.flatMap nodeCells), kidsP fv T.free, group (ns.map nodeP)]) (l' := l) hs ?_ hE hW⟩⟩
  intro A hA
  simp only [List.mem_cons, List.not_mem_nil, or_false] at hA
  rcases hA with rfl | rfl | rfl | rfl
  · exact inCells_blk _ _ _
  · exact inCells_own _ _ _ _ _
  · exact inCells_own _ _ _ _ _
  · refine inCells_group (fun A hA => ?_)
    obtain ⟨p, _, rfl⟩ := List.mem_map.1 hA
    refine inCells_group (fun A hA => ?_)
    simp only [List.mem_cons, List.not_mem_nil, or_false] at hA
    rcases hA with rfl | rfl | rfl <;> exact inCells_own _ _ _ _ _

theorem TreeA.own_new {B w w' : World} {D : PH} {t : Nat} {T : TM} {l : List HP} {e : TypeId} {size n : Nat} {v : Value} {xs : List Value} (h : TreeA B D w t T l) (k : Kept (fun _ => False) w w') (H : Own w' e size v n xs) (hn : ∀ g, v.ownBlock = some g → w.heap.size ≤ g) : TreeA B D w' t T (ownS e size v n xs :: l) := by
  obtain ⟨nv, fv, ns, hns, hs⟩ := h
  exact ⟨nv, fv, ns, hns, (Sat.own_new hs k H hn).perm (List.perm_middle (l₁ := [blk t (treeCells nv fv T.k) tT, ownS tN 4 nv ns.length (ns.flatMap nodeCells), kidsP fv T.free, group (ns.map nodeP)]) (a := ownS e size v n xs) (l₂ := l)).symm⟩

/-- what a tree tells of a span -/
def TM.Tells (T : TM) (s : Spn) (q : List (Val × VT)) : Prop := (q = [] ∧ (T.k.root < 0 ∨ s.no = true)) ∨ ∃ r : Nat, T.k.root = (r : Int) ∧ s.no = false ∧ T.Walks s r q

/-- the function that Range hands back -/
abbrev rngV (b1 b2 : Nat) : Value := .func (.func 32) #[] #[.pointer (some ⟨b1, 0, none⟩), .pointer (some ⟨b2, 0, none⟩)]

theorem infoSeq : Try.prog.underlying 36 = some (.func #[32] #[] false) := by kernel_rfl
theorem run_equalIn_func_nil {P : Program} (w : World) (d : Nat) (t : TypeId) (ps rs : Array TypeId) (v : Bool) (f : Fn) (x y : Array Value) (h : P.underlying t = some (.func ps rs v)) :
    (Op.equalIn (d + 1) t (.func f x y) .nilFunc).run P w = .ok false w := by
  simp [Op.equalIn, run_underlying h]
theorem run_eql_func_nil {P : Program} (w : World) (t : TypeId) (ps rs : Array TypeId) (v : Bool) (f : Fn) (x y : Array Value) (h : P.underlying t = some (.func ps rs v)) :
    (binOp .eql t (.func f x y) .nilFunc).run P w = .ok (.bool false) w := by
  simp only [binOp]
  simp [Op.equal, Op.maxDepth, run_equalIn_func_nil w 9999 t ps rs v f x y h]
/-- what Range hands back is something -/
@[go_sem] theorem run_eql_rng (w : World) (b1 b2 : Nat) : (binOp .eql 36 (rngV b1 b2) .nilFunc).run Try.prog w = .ok (.bool false) w := run_eql_func_nil _ _ _ _ _ _ _ _ infoSeq

set_option maxHeartbeats 1000000 in
theorem range_ok (p : Option Addr) (s : Spn) (w : World) :
    Calls Try.prog 14 #[.pointer p, s.v] w fun e w' => ∃ b1 b2, e = .returned (rngV b1 b2) ∧ Kept (fun _ => False) w w' ∧ w'.heap[b1]? = some (.cells #[.pointer p] 28 (0, 0)) ∧ w'.heap[b2]? = some (.cells s.cells tS (0, 0)) ∧ w.heap.size ≤ b1 ∧ w.heap.size ≤ b2 := by
  have hk : Kept (fun _ => False) w ((w.alloc (.cells #[.pointer p] 28)).alloc (.cells s.cells tS)) := ((Kept.refl _ _).alloc _).alloc _
  have h1 : ((w.alloc (.cells #[.pointer p] 28)).alloc (.cells s.cells tS)).heap[w.heap.size]? = some (.cells #[.pointer p] 28 (0, 0)) := heap_alloc_lt (heap_alloc_self w _)
  have h2 : ((w.alloc (.cells #[.pointer p] 28)).alloc (.cells s.cells tS)).heap[w.heap.size + 1]? = some (.cells s.cells tS (0, 0)) := by
    have := heap_alloc_self (w.alloc (.cells #[.pointer p] 28)) (.cells s.cells tS)
    rwa [World.size_alloc] at this
  have HK := Lib.hid (And.intro hk (And.intro h1 h2))
  clear hk h1 h2
  dsimp only [Spn.v]
  go_enter Try.func14, Try.ntmps14
  go_wp2_with (fail)
  go_ret
  exact ⟨_, _, rfl, HK.out.1, HK.out.2.1, HK.out.2.2, Nat.le_refl _, Nat.le_succ _⟩

set_option maxHeartbeats 2000000 in
theorem range1_ok {n₀ : Nat} {Ow : World → Nat → Prop} (hO : Owner n₀ Ow) {t l b1 b2 : Nat} {T : TM} {s : Spn} {q : List (Val × VT)} {J Jx : List (Val × VT) → World → Prop} {D : PH}
    (hJ : ∀ pre W W', J pre W → Kept (fun _ => False) W W' → J pre W')
    (hY : ∀ n pre x W, J pre W → pre.length < q.length → YieldAt Fence.wide n Try.prog l #[x.1.v, .int .i64 x.2] W fun e W' => (e = .returned (.bool true) ∧ J (pre ++ [x]) W' ∧ KpO Ow W W') ∨ (e = .returned (.bool false) ∧ Jx (pre ++ [x]) W'))
    (hT : TreeP D t T) (hw : T.Tells s q) (h1 : D b1 = some (.cells #[.pointer (some ⟨t, 0, none⟩)] 28 (0, 0))) (h2 : D b2 = some (.cells s.cells tS (0, 0))) (W : World) (hj : J [] W) (hit : ItOk n₀ Ow D W) :
    Calls Try.prog 32 #[.func (.yield l) #[] #[], .pointer (some ⟨b1, 0, none⟩), .pointer (some ⟨b2, 0, none⟩)] W fun e W' => (∃ v, e = .returned v) ∧ ((∃ xs, xs = q ∧ J xs W') ∨ (∃ pre, pre <+: q ∧ Jx pre W')) := by
  obtain ⟨p0, pf⟩ := cells1 (hit.le _ _ h1)
  obtain ⟨s0, s1, s2, s3, s4, s5, s6, s7, s8, s9, s10⟩ := Spn.at (s := s) (hit.le _ _ h2)
  have hTt := hT
  obtain ⟨nv, fv, ns, hns, hTS⟩ := hTt
  obtain ⟨l0, hs0⟩ := hTS W hit.le
  obtain ⟨t0, t1, t2, t3, t4, tf⟩ := hs0.tcells
  have HJ := Lib.hid hj
  rcases hw with ⟨rfl, hroot | hno⟩ | ⟨r, hroot, hno, hwk⟩
  · have hr0 : ¬ (T.k.root ≥ 0) := by omega
    clear hJ hY hs0 hTS hns hit h1 h2 hT hj hO
    go_enter Try.func32, Try.ntmps32
    go_wp2_with (fail)
    go_end0
    first
    | exact ⟨⟨_, rfl⟩, .inl ⟨_, rfl, HJ.out⟩⟩
    | exact ⟨⟨_, rfl⟩, .inl HJ.out⟩
  · rw [hno] at s0
    clear hJ hY hs0 hTS hns hit h1 h2 hT hj hO
    by_cases hr0 : T.k.root ≥ 0
    all_goals
      go_enter Try.func32, Try.ntmps32
      go_wp2_with (fail)
      go_end0
      first
      | exact ⟨⟨_, rfl⟩, .inl ⟨_, rfl, HJ.out⟩⟩
      | exact ⟨⟨_, rfl⟩, .inl HJ.out⟩
  · rw [hno] at s0
    rw [hroot] at t2
    have hr0 : (r : Int) ≥ 0 := by omega
    have HTH := Lib.hid (through_ok (N := q.length) hO hJ hY hwk D hT [] W.drew (hJ _ _ _ hj ((Kept.refl _ _).drew)) (by simp) (hit.kept hO ((Kept.refl _ _).drew)))
    clear hJ hY hs0 hTS hns hit h1 h2 hT hj hO hwk
    go_enter Try.func32, Try.ntmps32
    go_upto_region 1 with (fail)
    rw [← hno] at s0
    clear hno
    refine wp_region_canon [(0, false, 7), (1, false, 7), (2, false, 7), (3, false, 7), (4, false, 7), (5, false, 7), (6, false, 7), (7, true, 0)] (by kernel_rfl) (by kernel_rfl) ?_
    iterate 7 (refine wpCan_read rfl rfl (fun K hK => ?_); go_simp; refine hK _ ?_; clear hK K)
    refine wpCan_eff rfl ?_
    refine wpList_do rfl (fun K hK => ?_)
    go_simp
    refine HTH.out.mono ?_
    rintro e6 w6 (⟨rfl, h, -⟩ | ⟨rfl, p, hp, h⟩)
    · have H6 := Lib.hid (Or.inl ⟨q, rfl, h⟩ : (∃ xs, xs = q ∧ J xs w6) ∨ (∃ pre, pre <+: q ∧ Jx pre w6))
      clear h s0 s1 s2 s3 s4 s5 s6 s7 s8 s9 s10 t0 t1 t2 t3 t4 tf p0 pf
      refine hK _ _ ?_
      clear hK K
      refine wpList_nil ?_
      refine And.intro ?_ ?_
      · go_simp
      refine wpCan_nil ?_
      go_wp2_with fail
      go_end0
      exact ⟨⟨_, rfl⟩, H6.out⟩
    · have H6 := Lib.hid (Or.inr ⟨p, hp, h⟩ : (∃ xs, xs = q ∧ J xs w6) ∨ (∃ pre, pre <+: q ∧ Jx pre w6))
      clear h s0 s1 s2 s3 s4 s5 s6 s7 s8 s9 s10 t0 t1 t2 t3 t4 tf p0 pf
      refine hK _ _ ?_
      clear hK K
      refine wpList_nil ?_
      refine And.intro ?_ ?_
      · go_simp
      refine wpCan_nil ?_
      go_wp2_with fail
      go_end0
      exact ⟨⟨_, rfl⟩, H6.out⟩

/-- what Range hands back, as an iterator -/
theorem range_stops {n₀ : Nat} {Ow : World → Nat → Prop} (hO : Owner n₀ Ow) {t b1 b2 : Nat} {T : TM} {s : Spn} {q : List (Val × VT)} {D : PH} {w : World} (n : Nat)
    (hT : TreeP D t T) (hw : T.Tells s q) (h1 : D b1 = some (.cells #[.pointer (some ⟨t, 0, none⟩)] 28 (0, 0))) (h2 : D b2 = some (.cells s.cells tS (0, 0))) (hit : ∀ W, Below w.heap.size w W → ItOk n₀ Ow D W) :
    SeqStopsK Fence.wide n Try.prog 32 #[.pointer (some ⟨b1, 0, none⟩), .pointer (some ⟨b2, 0, none⟩)] (fun x : Val × VT => #[x.1.v, .int .i64 x.2]) (KpO Ow) (fun xs => xs = q) (fun pre => pre <+: q) q.length w := fun l J Jx W hW hJ _ hY h0 =>
  callsIn_wide.2 (range1_ok hO (fun pre W W' h k => hJ pre W W' none h k.grown (fun r e => by cases e)) (fun m pre x W hj hl => Proofs.Ytjijemeabfiipaa.YieldAt.anyDepth rfl m (hY pre x W hj hl)) hT hw h1 h2 W h0 (hit W hW))
end Go.Proofs.Ytjijemeabfiipaa
