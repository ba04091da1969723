/- Joined texts: The tree: contract of through, at any node. The tree: Range, and what it hands back. The order of values: total; binary search by it. The tree as data: what a node stands for; frames; a split. The tree as data: put. The tree as data: a split. The tree as data: put below a node. The tree: Put, by what the tree stands for. The tree as data: what it tells of a span. The tree: contracts of New, Len, Depth, Used, Room. -/
import Derived.Test.YtcbklkcpjldcjaaJ13
import Derived.Test.YtcbklkcpjldcjaaJ10
import Derived.Test.YtcbklkcpjldcjaaJ9
/- The tree: contract of through, at any node. -/
namespace Go.Proofs.Ytcbklkcpjldcjaa
open Go.ChangeShapes Go.WideShapes Go.ChangeAt Go.RowKit
set_option maxRecDepth 100000
set_option linter.unusedSimpArgs false

/-- what is told below a node -/
inductive TM.Walks (T : TM) (s : Spn) : Nat → List (Val × VT) → Prop
  | leaf {i : Nat} {m : NodeM} (hi : T.nodes[i]? = some m) (hl : m.leaf = true) (hv : m.vals.length = m.keys.length) (hkb : m.keys.length ≤ 1000) : TM.Walks T s i (m.tell s m.keys.length)
  | inner {i : Nat} {m : NodeM} (hi : T.nodes[i]? = some m) (hl : m.leaf = false) (hkb : m.keys.length ≤ 1000) (hdl : m.kids.length = m.keys.length + 1) (n : Nat) (f : Nat → List (Val × VT)) (hn : m.start s + n ≤ m.kids.length)
      (hgo : ∀ j, j < n → 0 < j → m.past s (m.start s + j - 1) = false) (hstop : m.start s + n = m.kids.length ∨ (0 < n ∧ m.past s (m.start s + n - 1) = true))
      (ih : ∀ j kid, j < n → m.kids[m.start s + j]? = some kid → TM.Walks T s kid (f j)) : TM.Walks T s i (tells f n)

theorem through_ok {n₀ : Nat} {Ow : World → Nat → Prop} (hO : Owner n₀ Ow) {t l : Nat} {V : List (Val × VT) → Prop} {T : TM} {s : Spn} {J Jx : List (Val × VT) → World → Prop}
    (hJ : ∀ pre W W', J pre W → Kept (fun _ => False) W W' → J pre W')
    (hY : ∀ n pre x W, J pre W → V (pre ++ [x]) → YieldAt Fence.wide n Try.prog l #[x.1.v, x.2.v] W fun e W' => (e = .returned (.bool true) ∧ J (pre ++ [x]) W' ∧ KpO Ow W W') ∨ (e = .returned (.bool false) ∧ Jx (pre ++ [x]) W'))
    {i : Nat} {q : List (Val × VT)} (hw : T.Walks s i q) : ∀ (D : PH), TreeP D t T → ∀ (pre : List (Val × VT)) (W : World), J pre W → (∀ p, p <+: pre ++ q → V p) → ItOk n₀ Ow D W →
    Calls Try.prog 66 #[.pointer (some ⟨t, 0, none⟩), .int .i64 i, s.v, .func (.yield l) #[] #[]] W fun e W' =>
      (e = .returned (.bool true) ∧ J (pre ++ q) W' ∧ ItOk n₀ Ow D W') ∨ (e = .returned (.bool false) ∧ ∃ p, p <+: q ∧ Jx (pre ++ p) W') := by
  induction hw with
  | leaf hi hl hv hkb => intro D hT pre W hj hN hit; exact through_leaf hO hJ hY hi hl hv hkb hT pre W hj hN hit
  | inner hi hl hkb hdl n f hn hgo hstop _ ih =>
    intro D hT pre W hj hN hit
    cases hlo : s.hasLo
    · exact through_nolo hO hJ hi hl hkb hdl hlo n f hn hgo hstop ih hT pre W hj hN hit
    · exact through_lo hO hJ hi hl hkb hdl hlo n f hn hgo hstop ih hT pre W hj hN hit
end Go.Proofs.Ytcbklkcpjldcjaa

/- The tree: Range, and what it hands back. -/
namespace Go.Proofs.Ytcbklkcpjldcjaa
open Go.ChangeShapes Go.WideShapes Go.ChangeAt Go.RowKit
set_option maxRecDepth 100000
set_option linter.unusedSimpArgs false

/-- where a tree is owned, it may be read from a heap that has its cells -/
theorem TreeA.pool {B w : World} {D E : PH} {t : Nat} {T : TM} {l : List HP} (h : TreeA B D w t T l) (hE : PH.le (cellsOf (heapOf w)) E) : TreeP E t T := by
  obtain ⟨nv, fv, ns, hns, hs⟩ := h
  refine ⟨nv, fv, ns, hns, fun W hW => ⟨[], Sat.inPool (l := [blk t (treeCells nv fv T.k) tT, ownS tN 4 nv ns.length (ns.flatMap nodeCells), kidsP fv T.free, group (ns.map nodeP)]) (l' := l) hs ?_ hE hW⟩⟩
  intro A hA
  simp only [List.mem_cons, List.not_mem_nil, or_false] at hA
  rcases hA with rfl | rfl | rfl | rfl
  · exact inCells_blk _ _ _
  · exact inCells_own _ _ _ _ _
  · exact inCells_own _ _ _ _ _
  · refine inCells_group (fun A hA => ?_)
    obtain ⟨p, _, rfl⟩ := List.mem_map.1 hA
    refine inCells_group (fun A hA => ?_)
    simp only [List.mem_cons, List.not_mem_nil, or_false] at hA
    rcases hA with rfl | rfl | rfl <;> exact inCells_own _ _ _ _ _

theorem TreeA.own_new {B w w' : World} {D : PH} {t : Nat} {T : TM} {l : List HP} {e : TypeId} {size n : Nat} {v : Value} {xs : List Value} (h : TreeA B D w t T l) (k : Kept (fun _ => False) w w') (H : Own w' e size v n xs) (hn : ∀ g, v.ownBlock = some g → w.heap.size ≤ g) : TreeA B D w' t T (ownS e size v n xs :: l) := by
  obtain ⟨nv, fv, ns, hns, hs⟩ := h
  exact ⟨nv, fv, ns, hns, (Sat.own_new hs k H hn).perm (List.perm_middle (l₁ := [blk t (treeCells nv fv T.k) tT, ownS tN 4 nv ns.length (ns.flatMap nodeCells), kidsP fv T.free, group (ns.map nodeP)]) (a := ownS e size v n xs) (l₂ := l)).symm⟩

/-- what a tree tells of a span -/
def TM.Tells (T : TM) (s : Spn) (q : List (Val × VT)) : Prop := (q = [] ∧ (T.k.root < 0 ∨ s.no = true)) ∨ ∃ r : Nat, T.k.root = (r : Int) ∧ s.no = false ∧ T.Walks s r q

/-- the function that Range hands back -/
abbrev rngV (b1 b2 : Nat) : Value := .func (.func 65) #[] #[.pointer (some ⟨b1, 0, none⟩), .pointer (some ⟨b2, 0, none⟩)]

theorem infoSeq : Try.prog.underlying 105 = some (.func #[86] #[] false) := by kernel_rfl
theorem run_equalIn_func_nil {P : Program} (w : World) (d : Nat) (t : TypeId) (ps rs : Array TypeId) (v : Bool) (f : Fn) (x y : Array Value) (h : P.underlying t = some (.func ps rs v)) :
    (Op.equalIn (d + 1) t (.func f x y) .nilFunc).run P w = .ok false w := by
  simp [Op.equalIn, run_underlying h]
theorem run_eql_func_nil {P : Program} (w : World) (t : TypeId) (ps rs : Array TypeId) (v : Bool) (f : Fn) (x y : Array Value) (h : P.underlying t = some (.func ps rs v)) :
    (binOp .eql t (.func f x y) .nilFunc).run P w = .ok (.bool false) w := by
  simp only [binOp]
  simp [Op.equal, Op.maxDepth, run_equalIn_func_nil w 9999 t ps rs v f x y h]
/-- what Range hands back is something -/
@[go_sem] theorem run_eql_rng (w : World) (b1 b2 : Nat) : (binOp .eql 105 (rngV b1 b2) .nilFunc).run Try.prog w = .ok (.bool false) w := run_eql_func_nil _ _ _ _ _ _ _ _ infoSeq

set_option maxHeartbeats 1000000 in
theorem range_ok (p : Option Addr) (s : Spn) (w : World) :
    Calls Try.prog 51 #[.pointer p, s.v] w fun e w' => ∃ b1 b2, e = .returned (rngV b1 b2) ∧ Kept (fun _ => False) w w' ∧ w'.heap[b1]? = some (.cells #[.pointer p] 69 (0, 0)) ∧ w'.heap[b2]? = some (.cells s.cells tS (0, 0)) ∧ w.heap.size ≤ b1 ∧ w.heap.size ≤ b2 := by
  have hk : Kept (fun _ => False) w ((w.alloc (.cells #[.pointer p] 69)).alloc (.cells s.cells tS)) := ((Kept.refl _ _).alloc _).alloc _
  have h1 : ((w.alloc (.cells #[.pointer p] 69)).alloc (.cells s.cells tS)).heap[w.heap.size]? = some (.cells #[.pointer p] 69 (0, 0)) := heap_alloc_lt (heap_alloc_self w _)
  have h2 : ((w.alloc (.cells #[.pointer p] 69)).alloc (.cells s.cells tS)).heap[w.heap.size + 1]? = some (.cells s.cells tS (0, 0)) := by
    have := heap_alloc_self (w.alloc (.cells #[.pointer p] 69)) (.cells s.cells tS)
    rwa [World.size_alloc] at this
  have HK := Lib.hid (And.intro hk (And.intro h1 h2))
  clear hk h1 h2
  dsimp only [Spn.v]
  go_enter Try.func51, Try.ntmps51
  go_wp2_with (fail)
  go_ret
  exact ⟨_, _, rfl, HK.out.1, HK.out.2.1, HK.out.2.2, Nat.le_refl _, Nat.le_succ _⟩

set_option maxHeartbeats 2000000 in
theorem range1_ok {n₀ : Nat} {Ow : World → Nat → Prop} (hO : Owner n₀ Ow) {t l b1 b2 : Nat} {T : TM} {s : Spn} {q : List (Val × VT)} {J Jx : List (Val × VT) → World → Prop} {D : PH}
    (hJ : ∀ pre W W', J pre W → Kept (fun _ => False) W W' → J pre W')
    (hY : ∀ n pre x W, J pre W → pre ++ [x] <+: q → YieldAt Fence.wide n Try.prog l #[x.1.v, x.2.v] W fun e W' => (e = .returned (.bool true) ∧ J (pre ++ [x]) W' ∧ KpO Ow W W') ∨ (e = .returned (.bool false) ∧ Jx (pre ++ [x]) W'))
    (hT : TreeP D t T) (hw : T.Tells s q) (h1 : D b1 = some (.cells #[.pointer (some ⟨t, 0, none⟩)] 69 (0, 0))) (h2 : D b2 = some (.cells s.cells tS (0, 0))) (W : World) (hj : J [] W) (hit : ItOk n₀ Ow D W) :
    Calls Try.prog 65 #[.func (.yield l) #[] #[], .pointer (some ⟨b1, 0, none⟩), .pointer (some ⟨b2, 0, none⟩)] W fun e W' => (∃ v, e = .returned v) ∧ ((∃ xs, xs = q ∧ J xs W') ∨ (∃ pre, pre <+: q ∧ Jx pre W')) := by
  obtain ⟨p0, pf⟩ := cells1 (hit.le _ _ h1)
  obtain ⟨s0, s1, s2, s3, s4, s5, s6, s7, s8, s9, s10⟩ := Spn.at (s := s) (hit.le _ _ h2)
  have hTt := hT
  obtain ⟨nv, fv, ns, hns, hTS⟩ := hTt
  obtain ⟨l0, hs0⟩ := hTS W hit.le
  obtain ⟨t0, t1, t2, t3, t4, tf⟩ := hs0.tcells
  have HJ := Lib.hid hj
  rcases hw with ⟨rfl, hroot | hno⟩ | ⟨r, hroot, hno, hwk⟩
  · have hr0 : ¬ (T.k.root ≥ 0) := by omega
    clear hJ hY hs0 hTS hns hit h1 h2 hT hj hO
    go_enter Try.func65, Try.ntmps65
    go_wp2_with (fail)
    go_end0
    first
    | exact ⟨⟨_, rfl⟩, .inl ⟨_, rfl, HJ.out⟩⟩
    | exact ⟨⟨_, rfl⟩, .inl HJ.out⟩
  · rw [hno] at s0
    clear hJ hY hs0 hTS hns hit h1 h2 hT hj hO
    by_cases hr0 : T.k.root ≥ 0
    all_goals
      go_enter Try.func65, Try.ntmps65
      go_wp2_with (fail)
      go_end0
      first
      | exact ⟨⟨_, rfl⟩, .inl ⟨_, rfl, HJ.out⟩⟩
      | exact ⟨⟨_, rfl⟩, .inl HJ.out⟩
  · rw [hno] at s0
    rw [hroot] at t2
    have hr0 : (r : Int) ≥ 0 := by omega
    have HTH := Lib.hid (through_ok (V := fun p => p <+: q) hO hJ hY hwk D hT [] W.drew (hJ _ _ _ hj ((Kept.refl _ _).drew)) (fun p hp => by simpa using hp) (hit.kept hO ((Kept.refl _ _).drew)))
    clear hJ hY hs0 hTS hns hit h1 h2 hT hj hO hwk
    go_enter Try.func65, Try.ntmps65
    go_upto_region 1 with (fail)
    rw [← hno] at s0
    clear hno
    refine wp_region_canon [(0, false, 7), (1, false, 7), (2, false, 7), (3, false, 7), (4, false, 7), (5, false, 7), (6, false, 7), (7, true, 0)] (by kernel_rfl) (by kernel_rfl) ?_
    iterate 7 (refine wpCan_read rfl rfl (fun K hK => ?_); go_simp; refine hK _ ?_; clear hK K)
    refine wpCan_eff rfl ?_
    refine wpList_do rfl (fun K hK => ?_)
    go_simp
    refine HTH.out.mono ?_
    rintro e6 w6 (⟨rfl, h, -⟩ | ⟨rfl, p, hp, h⟩)
    · have H6 := Lib.hid (Or.inl ⟨q, rfl, h⟩ : (∃ xs, xs = q ∧ J xs w6) ∨ (∃ pre, pre <+: q ∧ Jx pre w6))
      clear h s0 s1 s2 s3 s4 s5 s6 s7 s8 s9 s10 t0 t1 t2 t3 t4 tf p0 pf
      refine hK _ _ ?_
      clear hK K
      refine wpList_nil ?_
      refine And.intro ?_ ?_
      · go_simp
      refine wpCan_nil ?_
      go_wp2_with fail
      go_end0
      exact ⟨⟨_, rfl⟩, H6.out⟩
    · have H6 := Lib.hid (Or.inr ⟨p, hp, h⟩ : (∃ xs, xs = q ∧ J xs w6) ∨ (∃ pre, pre <+: q ∧ Jx pre w6))
      clear h s0 s1 s2 s3 s4 s5 s6 s7 s8 s9 s10 t0 t1 t2 t3 t4 tf p0 pf
      refine hK _ _ ?_
      clear hK K
      refine wpList_nil ?_
      refine And.intro ?_ ?_
      · go_simp
      refine wpCan_nil ?_
      go_wp2_with fail
      go_end0
      exact ⟨⟨_, rfl⟩, H6.out⟩

/-- what Range hands back, as an iterator -/
theorem range_new {n₀ : Nat} {Ow : World → Nat → Prop} (hO : Owner n₀ Ow) {t b1 b2 : Nat} {T : TM} {s : Spn} {q : List (Val × VT)} {D : PH} {w : World} (n : Nat)
    (hT : TreeP D t T) (hw : T.Tells s q) (h1 : D b1 = some (.cells #[.pointer (some ⟨t, 0, none⟩)] 69 (0, 0))) (h2 : D b2 = some (.cells s.cells tS (0, 0))) (hit : ∀ W, Below w.heap.size w W → ItOk n₀ Ow D W) :
    SeqNew Fence.wide n Try.prog 65 #[.pointer (some ⟨b1, 0, none⟩), .pointer (some ⟨b2, 0, none⟩)] (fun x : Val × VT => #[x.1.v, x.2.v]) (KpO Ow) (fun pre x _ _ => pre ++ [x] <+: q) (fun xs => xs = q) (fun pre => pre <+: q) w := fun l J Jx W hW hJ _ hY h0 =>
  callsIn_wide.2 (range1_ok hO (fun pre W W' h k => hJ pre W W' none h k.grown (fun r e => by cases e)) (fun m pre x W hj hl => Proofs.Ytcbklkcpjldcjaa.YieldAt.anyDepth rfl m ((hY pre x W W hj (Kept.refl _ _) hl).mono (fun _ _ h => h.2))) hT hw h1 h2 W h0 (hit W hW))
end Go.Proofs.Ytcbklkcpjldcjaa

/- The order of values: total; binary search by it. -/
namespace Go.Proofs.Ytcbklkcpjldcjaa
open Go.ChangeShapes Go.WideShapes Go.ChangeAt Go.RowKit
set_option maxRecDepth 100000
set_option linter.unusedSimpArgs false

theorem bl_asymm : ∀ (x y : List UInt8), Op.bytesLess x y = true → Op.bytesLess y x = false
  | _, [], h => by simp [Op.bytesLess] at h
  | [], _ :: _, _ => by simp [Op.bytesLess]
  | a :: x, b :: y, h => by
    simp only [Op.bytesLess, Bool.or_eq_true, Bool.and_eq_true, decide_eq_true_eq, beq_iff_eq] at h
    simp only [Op.bytesLess, Bool.or_eq_false_iff, Bool.and_eq_false_iff, decide_eq_false_iff_not, beq_eq_false_iff_ne]
    rw [UInt8.lt_iff_toNat_lt] at *
    rcases h with h | ⟨rfl, h⟩
    · exact ⟨by omega, .inl (fun e => by subst e; omega)⟩
    · exact ⟨by omega, .inr (bl_asymm x y h)⟩
theorem bl_total : ∀ (x y : List UInt8), Op.bytesLess x y = false → Op.bytesLess y x = false → x = y
  | [], [], _, _ => rfl
  | [], _ :: _, h, _ => by simp [Op.bytesLess] at h
  | _ :: _, [], _, h => by simp [Op.bytesLess] at h
  | a :: x, b :: y, h, h' => by
    simp only [Op.bytesLess, Bool.or_eq_false_iff, Bool.and_eq_false_iff, decide_eq_false_iff_not, beq_eq_false_iff_ne] at h h'
    rw [UInt8.lt_iff_toNat_lt] at *
    obtain rfl : a = b := UInt8.toNat_inj.1 (by omega)
    rcases h.2 with h2 | h2
    · exact absurd rfl h2
    · rcases h'.2 with h3 | h3
      · exact absurd rfl h3
      · rw [bl_total x y h2 h3]
theorem bl_trans : ∀ (x y z : List UInt8), Op.bytesLess x y = true → Op.bytesLess y z = true → Op.bytesLess x z = true
  | _, [], _, h, _ => by simp [Op.bytesLess] at h
  | _, _ :: _, [], _, h => by simp [Op.bytesLess] at h
  | [], _ :: _, _ :: _, _, _ => by simp [Op.bytesLess]
  | a :: x, b :: y, c :: z, h, h' => by
    simp only [Op.bytesLess, Bool.or_eq_true, Bool.and_eq_true, decide_eq_true_eq, beq_iff_eq] at h h' ⊢
    rw [UInt8.lt_iff_toNat_lt] at *
    rcases h with h | ⟨rfl, h⟩
    · rcases h' with h' | ⟨rfl, h'⟩
      · exact .inl (by omega)
      · exact .inl h
    · rcases h' with h' | ⟨rfl, h'⟩
      · exact .inl h'
      · exact .inr ⟨rfl, bl_trans x y z h h'⟩

theorem cmpS_swap (a b : ByteArray) : cmpS b a = - cmpS a b := by
  unfold cmpS
  cases h1 : Op.bytesLess a.toList b.toList
  · cases h2 : Op.bytesLess b.toList a.toList
    · have := bl_total _ _ h1 h2
      simp [this]
    · have : ¬ (a.toList == b.toList) = true := fun e => by
        have := eq_of_beq e
        rw [this] at h1 h2
        rw [h1] at h2; cases h2
      simp [this]
  · have h2 := bl_asymm _ _ h1
    have : ¬ (b.toList == a.toList) = true := fun e => by
      have := eq_of_beq e
      rw [this] at h1 h2
      rw [h1] at h2; cases h2
    simp [h2, this]
theorem cmpS_le {a b : ByteArray} : cmpS a b ≤ 0 ↔ Op.bytesLess b.toList a.toList = false := by
  unfold cmpS
  cases h1 : Op.bytesLess a.toList b.toList
  · by_cases h2 : (a.toList == b.toList) = true
    · have := eq_of_beq h2
      rw [this] at h1
      simp [h2, this, h1]
    · simp only [Bool.false_eq_true, if_false, h2]
      constructor
      · intro h; omega
      · intro h; exact absurd (bl_total _ _ h1 h) (fun e => h2 (by simp [e]))
  · simp [bl_asymm _ _ h1]
theorem cmpS_trans {a b c : ByteArray} (h : cmpS a b ≤ 0) (h' : cmpS b c ≤ 0) : cmpS a c ≤ 0 := by
  rw [cmpS_le] at *
  cases h3 : Op.bytesLess c.toList a.toList with
  | false => rfl
  | true =>
    cases h4 : Op.bytesLess a.toList b.toList with
    | true => rw [bl_trans _ _ _ h3 h4] at h'; cases h'
    | false =>
      have := bl_total _ _ h4 h
      rw [this] at h3
      rw [h3] at h'; cases h'
theorem cmpS_eq {a b : ByteArray} (h : cmpS a b = 0) : a = b := by
  have h1 : Op.bytesLess b.toList a.toList = false := cmpS_le.1 (by omega)
  have h2 : Op.bytesLess a.toList b.toList = false := cmpS_le.1 (by rw [cmpS_swap]; omega)
  have h3 := bl_total _ _ h2 h1
  have := toList_beq a b
  rw [h3] at this
  simpa using this

theorem cmp_swap (a b : Val) : valCmp b a = - valCmp a b := by
  obtain ⟨at_, an, as_⟩ := a
  obtain ⟨bt, bn, bs⟩ := b
  cases at_ <;> cases bt <;> simp [valCmp, cmpS_swap as_ bs]
  unfold cmpI
  repeat' split
  all_goals omega
theorem cmp_self (a : Val) : valCmp a a = 0 := by have := cmp_swap a a; omega
theorem le_trans' {a b c : Val} (h : valCmp a b ≤ 0) (h' : valCmp b c ≤ 0) : valCmp a c ≤ 0 := by
  obtain ⟨at_, an, as_⟩ := a
  obtain ⟨bt, bn, bs⟩ := b
  obtain ⟨ct, cn, cs⟩ := c
  cases at_ <;> cases bt <;> cases ct <;> simp [valCmp] at h h' ⊢
  · unfold cmpI at *
    repeat' split at h
    all_goals repeat' split at h'
    all_goals repeat' split
    all_goals omega
  · exact cmpS_trans h h'
theorem le_lt {a b c : Val} (h : valCmp a b ≤ 0) (h' : valCmp b c < 0) : valCmp a c < 0 := by
  by_cases h3 : valCmp a c < 0
  · exact h3
  · have h4 : valCmp c a ≤ 0 := by rw [cmp_swap]; omega
    have h5 := le_trans' h4 h
    rw [cmp_swap] at h5; omega
theorem lt_le {a b c : Val} (h : valCmp a b < 0) (h' : valCmp b c ≤ 0) : valCmp a c < 0 := by
  by_cases h3 : valCmp a c < 0
  · exact h3
  · have h4 : valCmp c a ≤ 0 := by rw [cmp_swap]; omega
    have h5 := le_trans' h' h4
    rw [cmp_swap] at h5; omega
theorem lt_trans' {a b c : Val} (h : valCmp a b < 0) (h' : valCmp b c < 0) : valCmp a c < 0 := le_lt (by omega) h'
theorem gt_iff (a b : Val) : valCmp a b > 0 ↔ valCmp b a < 0 := by rw [cmp_swap a b]; omega
theorem cmp_eq {a b : Val} (ha : valRight a = true) (hb : valRight b = true) (h : valCmp a b = 0) : a = b := by
  obtain ⟨at_, an, as_⟩ := a
  obtain ⟨bt, bn, bs⟩ := b
  cases at_ <;> cases bt <;> simp [valCmp, valRight] at h ha hb ⊢
  · refine ⟨?_, by rw [ha, hb]⟩
    unfold cmpI at h
    repeat' split at h
    all_goals omega
  · exact ⟨by omega, cmpS_eq h⟩

/-! ### binary search -/
theorem bsF_at {cmp : Nat → Int} {n p : Nat} (h1 : ∀ i, i < p → cmp i < 0) (h2 : ∀ i, p ≤ i → i < n → ¬ cmp i < 0) : ∀ (i j : Nat), i ≤ p → p ≤ j → j ≤ n → bsF cmp i j = p
  | i, j, hi, hj, hn => by
    by_cases h : i < j
    · rw [bsF_lt h]
      split
      · rename_i hc
        exact bsF_at h1 h2 _ _ (by
          by_cases hq : (i + j) / 2 + 1 ≤ p
          · exact hq
          · exact absurd hc (h2 _ (by omega) (by omega))) hj hn
      · rename_i hc
        exact bsF_at h1 h2 _ _ hi (by
          by_cases hq : p ≤ (i + j) / 2
          · exact hq
          · exact absurd (h1 _ (by omega)) hc) (by omega)
    · rw [bsF_ge h]; omega
termination_by i j => j - i

abbrev SortedK (ks : List Val) : Prop := ks.Pairwise (fun a b => valCmp a b < 0)
theorem keyAt_get {keys : List Val} {h : Nat} {x : Val} (k : Val) (hx : keys[h]? = some x) : keyAt keys k h = valCmp x k := keyAt_eq k hx
/-- sorted keys part in two at any value -/
theorem sorted_part (k : Val) : ∀ {ks : List Val}, SortedK ks → ∃ p, p ≤ ks.length ∧ (∀ i x, ks[i]? = some x → (i < p ↔ valCmp x k < 0))
  | [], _ => ⟨0, Nat.le_refl _, fun i x h => by simp at h⟩
  | a :: ks, h => by
    obtain ⟨p, hp, hx⟩ := sorted_part k (List.pairwise_cons.1 h).2
    by_cases ha : valCmp a k < 0
    · refine ⟨p + 1, by simpa using hp, fun i x hi => ?_⟩
      cases i with
      | zero => simp at hi; subst hi; simp [ha]
      | succ i => have := hx i x (by simpa using hi); omega
    · refine ⟨0, Nat.zero_le _, fun i x hi => ?_⟩
      cases i with
      | zero => simp at hi; subst hi; simp [ha]
      | succ i =>
        have h1 := (List.pairwise_cons.1 h).1 x (List.mem_of_getElem? (by simpa using hi))
        have : ¬ valCmp x k < 0 := fun h2 => ha (lt_trans' h1 h2)
        simp [this]
theorem bsAt_spec {ks : List Val} (k : Val) (h : SortedK ks) : ∀ i x, ks[i]? = some x → (i < bsAt ks k ↔ valCmp x k < 0) := by
  obtain ⟨p, hp, hx⟩ := sorted_part k h
  have e : bsAt ks k = p := by
    refine bsF_at (n := ks.length) (fun i hi => ?_) (fun i hi hn => ?_) 0 ks.length (Nat.zero_le _) hp (Nat.le_refl _)
    · obtain ⟨x, hxx⟩ : ∃ x, ks[i]? = some x := ⟨_, List.getElem?_eq_getElem (by omega)⟩
      rw [keyAt_get k hxx]
      exact (hx i x hxx).1 hi
    · obtain ⟨x, hxx⟩ : ∃ x, ks[i]? = some x := ⟨_, List.getElem?_eq_getElem (by omega)⟩
      rw [keyAt_get k hxx]
      exact fun hc => by have := (hx i x hxx).2 hc; omega
  rw [e]
  exact hx
theorem bsAt_len (ks : List Val) (k : Val) : bsAt ks k ≤ ks.length := (bsF_le (keyAt ks k) 0 ks.length (Nat.zero_le _)).2
theorem bsIs_spec {ks : List Val} (k : Val) : bsIs ks k = true ↔ ∃ x, ks[bsAt ks k]? = some x ∧ valCmp x k = 0 := by
  unfold bsIs
  simp only [Bool.and_eq_true, decide_eq_true_eq]
  constructor
  · rintro ⟨h1, h2⟩
    exact ⟨_, List.getElem?_eq_getElem h1, by rw [← h2, keyAt_get k (List.getElem?_eq_getElem h1)]⟩
  · rintro ⟨x, h1, h2⟩
    exact ⟨(List.getElem?_eq_some_iff.1 h1).1, by rw [keyAt_get k h1]; exact h2⟩
end Go.Proofs.Ytcbklkcpjldcjaa

/- The tree as data: what a node stands for; frames; a split. -/
namespace Go.Proofs.Ytcbklkcpjldcjaa
open Go.ChangeShapes Go.WideShapes Go.ChangeAt Go.RowKit
set_option maxRecDepth 100000
set_option linter.unusedSimpArgs false

theorem belowF_spec {ks : List Val} (k : Val) (h : SortedK ks) : ∀ i x, ks[i]? = some x → (i < belowF ks k ↔ valCmp x k ≤ 0) := by
  intro i x hx
  have hs := bsAt_spec k h
  unfold belowF
  cases hb : bsIs ks k
  · simp only [Bool.false_eq_true, if_false, Nat.add_zero]
    rw [hs i x hx]
    constructor
    · intro h; omega
    · intro hle
      by_cases hlt : valCmp x k < 0
      · exact hlt
      · exfalso
        have h0 : valCmp x k = 0 := by omega
        have hi : ¬ i < bsAt ks k := fun h => hlt ((hs i x hx).1 h)
        have hlen := (List.getElem?_eq_some_iff.1 hx).1
        obtain ⟨y, hy⟩ : ∃ y, ks[bsAt ks k]? = some y := ⟨_, List.getElem?_eq_getElem (by omega)⟩
        have hny : ¬ valCmp y k < 0 := fun h => by have := (hs _ y hy).2 h; omega
        by_cases he : bsAt ks k = i
        · rw [he] at hy
          rw [hx] at hy
          cases hy
          have := (bsIs_spec (ks := ks) k).2 ⟨x, by rw [he]; exact hx, h0⟩
          rw [hb] at this; cases this
        · have hyx : valCmp y x < 0 := by
            have := List.pairwise_iff_getElem.1 h (bsAt ks k) i (by omega) hlen (by omega)
            rw [List.getElem?_eq_getElem (by omega)] at hy
            rw [List.getElem?_eq_getElem hlen] at hx
            rw [Option.some.inj hy, Option.some.inj hx] at this
            exact this
          exact hny (lt_le hyx (by omega))
  · simp only [if_true]
    obtain ⟨y, hy, hy0⟩ := (bsIs_spec (ks := ks) k).1 hb
    by_cases he : i = bsAt ks k
    · subst he
      rw [hx] at hy; cases hy
      constructor <;> intro _ <;> omega
    · by_cases hlt : i < bsAt ks k
      · have := (hs i x hx).1 hlt
        constructor <;> intro _ <;> omega
      · have hlen := (List.getElem?_eq_some_iff.1 hx).1
        have hyx : valCmp y x < 0 := by
          have hl2 := (List.getElem?_eq_some_iff.1 hy).1
          have := List.pairwise_iff_getElem.1 h (bsAt ks k) i hl2 hlen (by omega)
          rw [List.getElem?_eq_getElem hl2] at hy
          rw [List.getElem?_eq_getElem hlen] at hx
          rw [Option.some.inj hy, Option.some.inj hx] at this
          exact this
        have : ¬ valCmp x k ≤ 0 := fun h => by have := lt_le hyx h; omega
        constructor <;> intro _ <;> omega

abbrev PL := List (Val × VT)
structure Kid where
  id : Nat
  L : PL
  ids : List Nat
def Fit (nodes : List NodeM) (i : Nat) : Prop := ∃ m, nodes[i]? = some m ∧ 2 ≤ m.size ∧ m.size ≤ 4
def Seps (keys : List Val) (cs : List Kid) : Prop := ∀ j k, keys[j]? = some k → (∀ x ∈ (cs.take (j + 1)).flatMap Kid.L, valCmp x.1 k < 0) ∧ (∀ x ∈ (cs.drop (j + 1)).flatMap Kid.L, valCmp k x.1 ≤ 0)
/-- what a node of depth d stands for, and the nodes that it is made of -/
def Rep (nodes : List NodeM) : Nat → Nat → PL → List Nat → Prop
  | 0, i, L, ids => ∃ m, nodes[i]? = some m ∧ m.leaf = true ∧ m.kids = [] ∧ m.vals.length = m.keys.length ∧ L = m.keys.zip m.vals ∧ ids = [i]
  | d + 1, i, L, ids => ∃ m, nodes[i]? = some m ∧ m.leaf = false ∧ m.vals = [] ∧ ∃ cs : List Kid, m.kids = cs.map Kid.id ∧ cs.length = m.keys.length + 1 ∧ (∀ c ∈ cs, Rep nodes d c.id c.L c.ids ∧ Fit nodes c.id) ∧ Seps m.keys cs ∧ SortedK m.keys ∧ L = cs.flatMap Kid.L ∧ ids = i :: cs.flatMap Kid.ids

theorem Rep.self {nodes : List NodeM} : ∀ {d i : Nat} {L : PL} {ids : List Nat}, Rep nodes d i L ids → i ∈ ids
  | 0, _, _, _, ⟨_, _, _, _, _, _, h⟩ => by rw [h]; simp
  | _ + 1, _, _, _, ⟨_, _, _, _, _, _, _, _, _, _, _, h⟩ => by rw [h]; simp
theorem Rep.node {nodes : List NodeM} : ∀ {d i : Nat} {L : PL} {ids : List Nat}, Rep nodes d i L ids → ∃ m, nodes[i]? = some m
  | 0, _, _, _, ⟨m, h, _⟩ => ⟨m, h⟩
  | _ + 1, _, _, _, ⟨m, h, _⟩ => ⟨m, h⟩
theorem Rep.frame {nodes nodes' : List NodeM} : ∀ {d i : Nat} {L : PL} {ids : List Nat}, Rep nodes d i L ids → (∀ x ∈ ids, nodes'[x]? = nodes[x]?) → Rep nodes' d i L ids
  | 0, i, _, _, ⟨m, h, r⟩, hf => ⟨m, by rw [hf i (by rw [r.2.2.2.2]; simp)]; exact h, r⟩
  | d + 1, i, _, ids, ⟨m, h, h1, h2, cs, h3, h4, h5, h6, h7, h8, h9⟩, hf => by
    refine ⟨m, by rw [hf i (by rw [h9]; simp)]; exact h, h1, h2, cs, h3, h4, fun c hc => ?_, h6, h7, h8, h9⟩
    have hsub : ∀ x ∈ c.ids, nodes'[x]? = nodes[x]? := fun x hx => hf x (by rw [h9]; exact List.mem_cons_of_mem _ (List.mem_flatMap.2 ⟨c, hc, hx⟩))
    obtain ⟨h10, m', h11, h12⟩ := h5 c hc
    exact ⟨h10.frame hsub, m', by rw [hsub c.id h10.self]; exact h11, h12⟩
theorem Fit.frame {nodes nodes' : List NodeM} {i : Nat} (h : Fit nodes i) (hf : nodes'[i]? = nodes[i]?) : Fit nodes' i := by
  obtain ⟨m, h1, h2⟩ := h
  exact ⟨m, by rw [hf]; exact h1, h2⟩
/-- something stands below a node that has anything -/
theorem Rep.some {nodes : List NodeM} : ∀ {d i : Nat} {L : PL} {ids : List Nat}, Rep nodes d i L ids → (∃ m, nodes[i]? = some m ∧ 1 ≤ m.size) → L ≠ []
  | 0, _, _, _, ⟨m, h, h1, h2, h3, h4, _⟩, ⟨m', h', hs⟩ => by
    rw [h] at h'; cases h'
    unfold NodeM.size at hs
    rw [h1, if_pos rfl] at hs
    intro e
    rw [e] at h4
    have := congrArg List.length h4
    simp [List.length_zip, h3] at this
    omega
  | d + 1, _, _, _, ⟨m, h, h1, h2, cs, h3, h4, h5, _, _, h8, _⟩, _ => by
    cases cs with
    | nil => simp at h4
    | cons c cs =>
      obtain ⟨h10, m', h11, h12, _⟩ := h5 c (List.mem_cons_self ..)
      have := Rep.some h10 ⟨m', h11, by omega⟩
      rw [h8]
      simp [this]

/-! ### separators -/
theorem take_mid {α : Type} (A B : List α) (x : α) (n : Nat) : (A ++ x :: B).take n = if n ≤ A.length then A.take n else A ++ x :: B.take (n - A.length - 1) := by
  split
  · rename_i h; rw [List.take_append_of_le_length h]
  · rename_i h
    obtain ⟨q, rfl⟩ : ∃ q, n = A.length + (q + 1) := ⟨n - A.length - 1, by omega⟩
    rw [List.take_length_add_append, List.take_succ_cons, show A.length + (q + 1) - A.length - 1 = q by omega]
theorem drop_mid {α : Type} (A B : List α) (x : α) (n : Nat) : (A ++ x :: B).drop n = if n ≤ A.length then A.drop n ++ x :: B else B.drop (n - A.length - 1) := by
  split
  · rename_i h; rw [List.drop_append_of_le_length h]
  · rename_i h
    obtain ⟨q, rfl⟩ : ∃ q, n = A.length + (q + 1) := ⟨n - A.length - 1, by omega⟩
    rw [List.drop_length_add_append, List.drop_succ_cons, show A.length + (q + 1) - A.length - 1 = q by omega]
/-- one of the nodes below stands for more now -/
theorem Seps.swap {keys : List Val} {A Bs : List Kid} {c0 c1 : Kid} (h : Seps keys (A ++ c0 :: Bs)) {p : Val × VT} (hL : ∀ x ∈ c1.L, x.1 = p.1 ∨ x ∈ c0.L)
    (hp : ∀ j k, keys[j]? = some k → if A.length ≤ j then valCmp p.1 k < 0 else valCmp k p.1 ≤ 0) : Seps keys (A ++ c1 :: Bs) := by
  intro j k hk
  obtain ⟨h1, h2⟩ := h j k hk
  have h3 := hp j k hk
  rw [take_mid] at h1 ⊢
  rw [drop_mid] at h2 ⊢
  by_cases hj : j + 1 ≤ A.length
  · rw [if_pos hj] at h1 h2 ⊢
    rw [if_neg (by omega)] at h3
    rw [if_pos hj]
    refine ⟨h1, fun x hx => ?_⟩
    rw [List.flatMap_append, List.flatMap_cons, List.mem_append, List.mem_append] at hx
    rcases hx with hx | hx | hx
    · exact h2 x (by rw [List.flatMap_append]; exact List.mem_append.2 (.inl hx))
    · rcases hL x hx with e | hx
      · rw [e]; exact h3
      · exact h2 x (by rw [List.flatMap_append, List.flatMap_cons]; exact List.mem_append.2 (.inr (List.mem_append.2 (.inl hx))))
    · exact h2 x (by rw [List.flatMap_append, List.flatMap_cons]; exact List.mem_append.2 (.inr (List.mem_append.2 (.inr hx))))
  · rw [if_neg hj] at h1 h2 ⊢
    rw [if_pos (by omega)] at h3
    rw [if_neg hj]
    refine ⟨fun x hx => ?_, h2⟩
    rw [List.flatMap_append, List.flatMap_cons, List.mem_append, List.mem_append] at hx
    rcases hx with hx | hx | hx
    · exact h1 x (by rw [List.flatMap_append]; exact List.mem_append.2 (.inl hx))
    · rcases hL x hx with e | hx
      · rw [e]; exact h3
      · exact h1 x (by rw [List.flatMap_append, List.flatMap_cons]; exact List.mem_append.2 (.inr (List.mem_append.2 (.inl hx))))
    · exact h1 x (by rw [List.flatMap_append, List.flatMap_cons]; exact List.mem_append.2 (.inr (List.mem_append.2 (.inr hx))))
theorem insAt_get {α : Type} (l : List α) (c : Nat) (x : α) (hc : c ≤ l.length) (j : Nat) : (insAt l c x)[j]? = if j < c then l[j]? else if j = c then some x else l[j - 1]? := by
  unfold insAt
  have hl : (l.take c).length = c := by rw [List.length_take]; omega
  by_cases h1 : j < c
  · rw [if_pos h1, List.getElem?_append_left (by omega), List.getElem?_take, if_pos h1]
  · rw [if_neg h1, List.getElem?_append_right (by omega), hl]
    by_cases h2 : j = c
    · subst h2; simp
    · rw [if_neg h2]
      obtain ⟨q, rfl⟩ : ∃ q, j = c + (q + 1) := ⟨j - c - 1, by omega⟩
      rw [show c + (q + 1) - c = q + 1 by omega, List.getElem?_cons_succ, List.getElem?_drop, show c + (q + 1) - 1 = c + q by omega]
/-- a node below is split in two -/
theorem Seps.split {keys : List Val} {A Bs : List Kid} {c1 k1 k2 : Kid} {sep : Val} (hlen : (A ++ c1 :: Bs).length = keys.length + 1) (h : Seps keys (A ++ c1 :: Bs)) (hs : SortedK keys)
    (hL : c1.L = k1.L ++ k2.L) (h1 : ∀ x ∈ k1.L, valCmp x.1 sep < 0) (h2 : ∀ x ∈ k2.L, valCmp sep x.1 ≤ 0) (hn1 : k1.L ≠ []) (hn2 : k2.L ≠ []) :
    Seps (insAt keys A.length sep) (A ++ k1 :: k2 :: Bs) ∧ SortedK (insAt keys A.length sep) := by
  simp only [List.length_append, List.length_cons] at hlen
  obtain ⟨y, hy⟩ := List.exists_mem_of_ne_nil _ hn1
  obtain ⟨z, hz⟩ := List.exists_mem_of_ne_nil _ hn2
  have lo : ∀ j k, keys[j]? = some k → j < A.length → valCmp k sep < 0 := fun j k hk hj => by
    have := (h j k hk).2 y (by
      rw [drop_mid, if_pos (by omega), List.flatMap_append, List.flatMap_cons, hL]
      simp [hy])
    exact le_lt this (h1 y hy)
  have hi : ∀ j k, keys[j]? = some k → A.length ≤ j → valCmp sep k < 0 := fun j k hk hj => by
    have := (h j k hk).1 z (by
      rw [take_mid, if_neg (by omega), List.flatMap_append, List.flatMap_cons, hL]
      simp [hz])
    exact le_lt (h2 z hz) this
  have hA : ∀ x ∈ A.flatMap Kid.L, valCmp x.1 sep < 0 := fun x hx => by
    by_cases h0 : A.length = 0
    · have : A = [] := List.length_eq_zero_iff.1 h0
      subst this; simp at hx
    · obtain ⟨k, hk⟩ : ∃ k, keys[A.length - 1]? = some k := ⟨_, List.getElem?_eq_getElem (by omega)⟩
      have := (h _ k hk).1 x (by
        rw [take_mid, if_pos (by omega), List.take_of_length_le (by omega)]
        exact hx)
      exact lt_trans' this (lo _ k hk (by omega))
  have hB : ∀ x ∈ Bs.flatMap Kid.L, valCmp sep x.1 ≤ 0 := fun x hx => by
    by_cases h0 : Bs.length = 0
    · have : Bs = [] := List.length_eq_zero_iff.1 h0
      subst this; simp at hx
    · obtain ⟨k, hk⟩ : ∃ k, keys[A.length]? = some k := ⟨_, List.getElem?_eq_getElem (by omega)⟩
      have := (h _ k hk).2 x (by
        rw [drop_mid, if_neg (by omega), show A.length + 1 - A.length - 1 = 0 by omega, List.drop_zero]
        exact hx)
      have h3 := hi _ k hk (Nat.le_refl _)
      have := lt_le h3 this
      omega
  refine ⟨fun j k hk => ?_, ?_⟩
  · rw [insAt_get _ _ _ (by omega)] at hk
    have e3 : A ++ k1 :: k2 :: Bs = (A ++ [k1]) ++ k2 :: Bs := by simp
    by_cases hj : j < A.length
    · rw [if_pos hj] at hk
      obtain ⟨g1, g2⟩ := h j k hk
      rw [take_mid, if_pos (by omega)] at g1 ⊢
      rw [drop_mid, if_pos (by omega)] at g2 ⊢
      refine ⟨g1, fun x hx => g2 x ?_⟩
      simp only [List.flatMap_append, List.flatMap_cons, hL, List.mem_append] at hx ⊢
      rcases hx with hx | hx | hx | hx
      · exact .inl hx
      · exact .inr (.inl (.inl hx))
      · exact .inr (.inl (.inr hx))
      · exact .inr (.inr hx)
    · rw [if_neg hj] at hk
      by_cases hj2 : j = A.length
      · subst hj2
        rw [if_pos rfl] at hk
        cases hk
        rw [take_mid, if_neg (by omega), drop_mid, if_neg (by omega), show A.length + 1 - A.length - 1 = 0 by omega]
        refine ⟨fun x hx => ?_, fun x hx => ?_⟩
        · simp only [List.take_zero, List.flatMap_append, List.flatMap_cons, List.flatMap_nil, List.append_nil, List.mem_append] at hx
          exact hx.elim (hA x) (h1 x)
        · simp only [List.drop_zero, List.flatMap_cons, List.mem_append] at hx
          exact hx.elim (h2 x) (hB x)
      · rw [if_neg hj2] at hk
        obtain ⟨g1, g2⟩ := h (j - 1) k hk
        rw [take_mid, if_neg (by omega)] at g1
        rw [drop_mid, if_neg (by omega)] at g2
        rw [e3, take_mid, if_neg (by simp; omega), drop_mid, if_neg (by simp; omega)]
        simp only [List.length_append, List.length_singleton]
        rw [show j + 1 - (A.length + 1) - 1 = j - 1 + 1 - A.length - 1 by omega]
        refine ⟨fun x hx => g1 x ?_, g2⟩
        simp only [List.flatMap_append, List.flatMap_cons, List.flatMap_nil, List.append_nil, hL, List.mem_append] at hx ⊢
        rcases hx with (hx | hx) | hx | hx
        · exact .inl hx
        · exact .inr (.inl (.inl hx))
        · exact .inr (.inl (.inr hx))
        · exact .inr (.inr hx)
  · unfold SortedK insAt
    have hlt : ∀ a ∈ keys.take A.length, valCmp a sep < 0 := fun a ha => by
      obtain ⟨j, hj⟩ := List.mem_iff_getElem?.1 ha
      rw [List.getElem?_take] at hj
      split at hj
      · rename_i hlt; exact lo j a hj hlt
      · cases hj
    have hgt : ∀ a ∈ keys.drop A.length, valCmp sep a < 0 := fun a ha => by
      obtain ⟨j, hj⟩ := List.mem_iff_getElem?.1 ha
      rw [List.getElem?_drop] at hj
      exact hi _ a hj (by omega)
    rw [List.pairwise_append, List.pairwise_cons]
    refine ⟨hs.sublist (List.take_sublist _ _), ⟨hgt, hs.sublist (List.drop_sublist _ _)⟩, fun a ha b hb => ?_⟩
    rcases List.mem_cons.1 hb with rfl | hb
    · exact hlt a ha
    · exact lt_trans' (hlt a ha) (hgt b hb)
theorem Seps.take {keys : List Val} {cs : List Kid} (h : Seps keys cs) (n : Nat) : Seps (keys.take n) (cs.take (n + 1)) := by
  intro j k hk
  rw [List.getElem?_take] at hk
  split at hk
  · rename_i hj
    obtain ⟨h1, h2⟩ := h j k hk
    rw [List.take_take, show min (j + 1) (n + 1) = j + 1 by omega]
    refine ⟨h1, fun x hx => h2 x ?_⟩
    rw [List.drop_take] at hx
    obtain ⟨c, hc, hx⟩ := List.mem_flatMap.1 hx
    exact List.mem_flatMap.2 ⟨c, List.mem_of_mem_take hc, hx⟩
  · cases hk
theorem Seps.drop {keys : List Val} {cs : List Kid} (h : Seps keys cs) (n : Nat) : Seps (keys.drop n) (cs.drop n) := by
  intro j k hk
  rw [List.getElem?_drop] at hk
  obtain ⟨h1, h2⟩ := h (n + j) k hk
  refine ⟨fun x hx => h1 x ?_, fun x hx => h2 x ?_⟩
  · rw [List.take_drop] at hx
    obtain ⟨c, hc, hx⟩ := List.mem_flatMap.1 hx
    exact List.mem_flatMap.2 ⟨c, by rw [show n + j + 1 = n + (j + 1) by omega]; exact List.mem_of_mem_drop hc, hx⟩
  · rw [List.drop_drop] at hx
    rw [show n + j + 1 = n + (j + 1) by omega]
    exact hx
end Go.Proofs.Ytcbklkcpjldcjaa

/- The tree as data: put. -/
namespace Go.Proofs.Ytcbklkcpjldcjaa
open Go.ChangeShapes Go.WideShapes Go.ChangeAt Go.RowKit
set_option maxRecDepth 100000
set_option linter.unusedSimpArgs false

abbrev SortedL (L : PL) : Prop := L.Pairwise (fun a b => valCmp a.1 b.1 < 0)
def RightL (L : PL) : Prop := ∀ p ∈ L, valRight p.1 = true
def hasK (L : PL) (k : Val) : Bool := L.any (fun p => decide (valCmp p.1 k = 0))
/-- what is put at a key -/
def insL (L : PL) (k : Val) (v : VT) : PL := L.filter (fun p => decide (valCmp p.1 k < 0)) ++ (k, v) :: L.filter (fun p => decide (0 < valCmp p.1 k))

theorem filter_all {α : Type} {p : α → Bool} {l : List α} (h : ∀ x ∈ l, p x = true) : l.filter p = l := List.filter_eq_self.2 h
theorem filter_none {α : Type} {p : α → Bool} {l : List α} (h : ∀ x ∈ l, p x = false) : l.filter p = [] := List.filter_eq_nil_iff.2 (fun x hx => by rw [h x hx]; simp)
theorem insL_mid {A M Bs : PL} {k : Val} {v : VT} (hA : ∀ x ∈ A, valCmp x.1 k < 0) (hB : ∀ x ∈ Bs, valCmp k x.1 < 0) : insL (A ++ M ++ Bs) k v = A ++ insL M k v ++ Bs := by
  have hB' : ∀ x ∈ Bs, 0 < valCmp x.1 k := fun x hx => (gt_iff _ _).2 (hB x hx)
  unfold insL
  simp only [List.filter_append]
  rw [filter_all (l := A) (fun x hx => by simpa using hA x hx), filter_none (l := A) (fun x hx => by have := hA x hx; simp; omega), filter_none (l := Bs) (fun x hx => by have := hB' x hx; simp; omega), filter_all (l := Bs) (fun x hx => by simpa using hB' x hx)]
  simp
theorem hasK_mid {A M Bs : PL} {k : Val} (hA : ∀ x ∈ A, valCmp x.1 k < 0) (hB : ∀ x ∈ Bs, valCmp k x.1 < 0) : hasK (A ++ M ++ Bs) k = hasK M k := by
  unfold hasK
  rw [List.any_append, List.any_append]
  have h1 : A.any (fun p => decide (valCmp p.1 k = 0)) = false := List.any_eq_false.2 (fun x hx => by have := hA x hx; simp; omega)
  have h2 : Bs.any (fun p => decide (valCmp p.1 k = 0)) = false := List.any_eq_false.2 (fun x hx => by have := (gt_iff _ _).2 (hB x hx); simp; omega)
  rw [h1, h2]; simp
theorem insL_at {A Bs M : PL} {k : Val} {v : VT} (hA : ∀ x ∈ A, valCmp x.1 k < 0) (hM : ∀ x ∈ M, valCmp x.1 k = 0) (hB : ∀ x ∈ Bs, valCmp k x.1 < 0) : insL (A ++ M ++ Bs) k v = A ++ (k, v) :: Bs := by
  rw [insL_mid hA hB]
  unfold insL
  rw [filter_none (l := M) (fun x hx => by have := hM x hx; simp; omega), filter_none (l := M) (fun x hx => by have := hM x hx; simp; omega)]
  simp
theorem mem_insL {L : PL} {k : Val} {v : VT} {x : Val × VT} (h : x ∈ insL L k v) : x = (k, v) ∨ x ∈ L := by
  unfold insL at h
  rcases List.mem_append.1 h with h | h
  · exact .inr (List.mem_filter.1 h).1
  · rcases List.mem_cons.1 h with h | h
    · exact .inl h
    · exact .inr (List.mem_filter.1 h).1
theorem insL_sorted {L : PL} {k : Val} {v : VT} (h : SortedL L) : SortedL (insL L k v) := by
  unfold insL SortedL
  rw [List.pairwise_append, List.pairwise_cons]
  refine ⟨List.Pairwise.filter _ h, ⟨fun a ha => ?_, List.Pairwise.filter _ h⟩, fun a ha b hb => ?_⟩
  · have := (List.mem_filter.1 ha).2
    exact (gt_iff _ _).1 (by simpa using this)
  · have h1 : valCmp a.1 k < 0 := by simpa using (List.mem_filter.1 ha).2
    rcases List.mem_cons.1 hb with rfl | hb
    · exact h1
    · have h2 : valCmp k b.1 < 0 := (gt_iff _ _).1 (by simpa using (List.mem_filter.1 hb).2)
      exact lt_trans' h1 h2
theorem insL_right {L : PL} {k : Val} {v : VT} (hk : valRight k = true) (h : RightL L) : RightL (insL L k v) := fun x hx => by
  rcases mem_insL hx with rfl | hx
  · exact hk
  · exact h x hx

/-! ### a row of keys beside a row of what stands there -/
theorem zip_set {α β : Type} : ∀ (xs : List α) (ys : List β) (i : Nat) (x : α) (y : β), xs[i]? = some x → (xs.zip (ys.set i y)) = (xs.zip ys).set i (x, y)
  | [], _, _, _, _, h => by simp at h
  | _ :: _, [], _, _, _, _ => by simp
  | a :: xs, b :: ys, 0, x, y, h => by simp at h; subst h; simp
  | a :: xs, b :: ys, i + 1, x, y, h => by simp [zip_set xs ys i x y (by simpa using h)]
theorem zip_take {α β : Type} : ∀ (xs : List α) (ys : List β) (n : Nat), (xs.take n).zip (ys.take n) = (xs.zip ys).take n
  | _, _, 0 => by simp
  | [], _, _ + 1 => by simp
  | _ :: _, [], _ + 1 => by simp
  | a :: xs, b :: ys, n + 1 => by simp [zip_take xs ys n]
theorem zip_drop {α β : Type} : ∀ (xs : List α) (ys : List β) (n : Nat), (xs.drop n).zip (ys.drop n) = (xs.zip ys).drop n
  | _, _, 0 => by simp
  | [], _, _ + 1 => by simp
  | _ :: _, [], _ + 1 => by simp
  | a :: xs, b :: ys, n + 1 => by simp [zip_drop xs ys n]
theorem zip_insAt {α β : Type} (xs : List α) (ys : List β) (n : Nat) (x : α) (y : β) (h : ys.length = xs.length) : (insAt xs n x).zip (insAt ys n y) = (xs.zip ys).take n ++ (x, y) :: (xs.zip ys).drop n := by
  unfold insAt
  rw [List.zip_append (by simp [h]), List.zip_cons_cons, zip_take, zip_drop]
theorem zip_keys {xs : List Val} {ys : List VT} (h : ys.length = xs.length) : (xs.zip ys).map Prod.fst = xs := List.map_fst_zip (by omega)
theorem zip_get {xs : List Val} {ys : List VT} {j : Nat} {p : Val × VT} (h : (xs.zip ys)[j]? = some p) : xs[j]? = some p.1 := (List.getElem?_zip_eq_some.1 h).1
theorem sortedK_of {xs : List Val} {ys : List VT} (hl : ys.length = xs.length) (h : SortedL (xs.zip ys)) : SortedK xs := by
  rw [← zip_keys hl]
  exact List.pairwise_map.2 h
theorem mem_take_get {α : Type} {l : List α} {n : Nat} {P : α → Prop} (h : ∀ j x, l[j]? = some x → j < n → P x) : ∀ x ∈ l.take n, P x := fun x hx => by
  obtain ⟨j, hj⟩ := List.mem_iff_getElem?.1 hx
  rw [List.getElem?_take] at hj
  split at hj
  · exact h j x hj (by assumption)
  · cases hj
theorem mem_drop_get {α : Type} {l : List α} {n : Nat} {P : α → Prop} (h : ∀ j x, l[j]? = some x → n ≤ j → P x) : ∀ x ∈ l.drop n, P x := fun x hx => by
  obtain ⟨j, hj⟩ := List.mem_iff_getElem?.1 hx
  rw [List.getElem?_drop] at hj
  exact h _ x hj (by omega)

/-- a leaf: what is put there -/
theorem leaf_found {xs : List Val} {ys : List VT} {k : Val} {v : VT} (hl : ys.length = xs.length) (hs : SortedL (xs.zip ys)) (hr : RightL (xs.zip ys)) (hk : valRight k = true) (h : bsIs xs k = true) :
    xs.zip (ys.set (bsAt xs k) v) = insL (xs.zip ys) k v ∧ hasK (xs.zip ys) k = true := by
  have hsk := sortedK_of hl hs
  obtain ⟨x, hx, hx0⟩ := (bsIs_spec (ks := xs) k).1 h
  have hlt := (List.getElem?_eq_some_iff.1 hx).1
  obtain ⟨y, hy⟩ : ∃ y, ys[bsAt xs k]? = some y := ⟨_, List.getElem?_eq_getElem (by omega)⟩
  have hz : (xs.zip ys)[bsAt xs k]? = some (x, y) := List.getElem?_zip_eq_some.2 ⟨hx, hy⟩
  obtain rfl : x = k := cmp_eq (hr _ (List.mem_of_getElem? hz)) hk hx0
  have hzl : bsAt xs x < (xs.zip ys).length := (List.getElem?_eq_some_iff.1 hz).1
  have e1 : xs.zip ys = (xs.zip ys).take (bsAt xs x) ++ [(x, y)] ++ (xs.zip ys).drop (bsAt xs x + 1) := by
    have := List.take_append_drop (bsAt xs x) (xs.zip ys)
    rw [List.drop_eq_getElem_cons hzl] at this
    rw [List.getElem?_eq_getElem hzl] at hz
    rw [Option.some.inj hz] at this
    rw [List.append_assoc]
    exact this.symm
  have hA : ∀ p ∈ (xs.zip ys).take (bsAt xs x), valCmp p.1 x < 0 := mem_take_get (fun j p hj hlt => (bsAt_spec x hsk j p.1 (zip_get hj)).1 hlt)
  have hB : ∀ p ∈ (xs.zip ys).drop (bsAt xs x + 1), valCmp x p.1 < 0 := mem_drop_get (fun j p hj hge => by
    have h1 := zip_get hj
    have hjl := (List.getElem?_eq_some_iff.1 h1).1
    have := List.pairwise_iff_getElem.1 hsk (bsAt xs x) j hlt hjl (by omega)
    rw [List.getElem?_eq_getElem hlt] at hx
    rw [List.getElem?_eq_getElem hjl] at h1
    rw [Option.some.inj hx, Option.some.inj h1] at this
    exact this)
  refine ⟨?_, ?_⟩
  · rw [zip_set _ _ _ _ _ hx]
    conv => rhs; rw [e1]
    rw [insL_at hA (fun p hp => by simp at hp; subst hp; exact cmp_self _) hB, List.set_eq_take_append_cons_drop, if_pos hzl]
  · unfold hasK
    exact List.any_eq_true.2 ⟨_, List.mem_of_getElem? hz, by simp [cmp_self]⟩
theorem leaf_fresh {xs : List Val} {ys : List VT} {k : Val} {v : VT} (hl : ys.length = xs.length) (hs : SortedL (xs.zip ys)) (h : bsIs xs k = false) :
    (insAt xs (bsAt xs k) k).zip (insAt ys (bsAt xs k) v) = insL (xs.zip ys) k v ∧ hasK (xs.zip ys) k = false := by
  have hsk := sortedK_of hl hs
  have hA : ∀ p ∈ (xs.zip ys).take (bsAt xs k), valCmp p.1 k < 0 := mem_take_get (fun j p hj hlt => (bsAt_spec k hsk j p.1 (zip_get hj)).1 hlt)
  have hB : ∀ p ∈ (xs.zip ys).drop (bsAt xs k), valCmp k p.1 < 0 := mem_drop_get (fun j p hj hge => by
    have h1 := zip_get hj
    have h2 : ¬ valCmp p.1 k < 0 := fun hc => by have := (bsAt_spec k hsk j p.1 h1).2 hc; omega
    have h3 : ¬ j < belowF xs k := by unfold belowF; rw [h]; simp; omega
    have h4 : ¬ valCmp p.1 k ≤ 0 := fun hc => h3 ((belowF_spec k hsk j p.1 h1).2 hc)
    exact (gt_iff _ _).1 (by omega))
  have e1 : xs.zip ys = (xs.zip ys).take (bsAt xs k) ++ [] ++ (xs.zip ys).drop (bsAt xs k) := by simp
  refine ⟨?_, ?_⟩
  · rw [zip_insAt _ _ _ _ _ hl]
    conv => rhs; rw [e1]
    rw [insL_at hA (fun p hp => by simp at hp) hB]
  · rw [e1, hasK_mid hA hB]; rfl

/-! ### a split -/
theorem slot_law {T : TM} {b : Bool} {xs : List Nat} (hp : (xs ++ T.free).Perm (List.range T.nodes.length)) :
    ((T.slot b).1 :: xs ++ (T.slot b).2.free).Perm (List.range (T.slot b).2.nodes.length) ∧ (∀ x ∈ xs, (T.slot b).2.nodes[x]? = T.nodes[x]?) ∧ (T.slot b).1 ∉ xs ∧ (T.slot b).2.nodes.length ≤ T.nodes.length + 1 ∧ ((T.slot b).2.nodes.length = T.nodes.length ∨ (T.slot b).2.free = []) ∧ (∀ x, T.free.getLast? = some x → x < T.nodes.length ∧ x ∉ xs) ∧ (T.slot b).1 < (T.slot b).2.nodes.length ∧ T.free.length ≤ T.nodes.length ∧ (∀ x ∈ xs, x < T.nodes.length) := by
  have hmem : ∀ x ∈ xs ++ T.free, x < T.nodes.length := fun x hx => List.mem_range.1 (hp.mem_iff.1 hx)
  have hnd : (xs ++ T.free).Nodup := hp.nodup_iff.2 List.nodup_range
  have hfl : T.free.length ≤ T.nodes.length := by
    have := hp.length_eq
    simp at this; omega
  have hlast : ∀ x, T.free.getLast? = some x → x < T.nodes.length ∧ x ∉ xs := fun x hx => by
    have hm : x ∈ T.free := List.mem_of_getLast? hx
    exact ⟨hmem x (List.mem_append.2 (.inr hm)), fun hxs => (List.nodup_append.1 hnd).2.2 x hxs x hm rfl⟩
  refine ⟨?_, ?_, ?_, ?_, ?_, hlast, ?_, hfl, fun x hx => hmem x (List.mem_append.2 (.inl hx))⟩
  all_goals unfold TM.slot
  all_goals split
  · rename_i x hx
    have e : T.free = T.free.dropLast ++ [x] := by
      have hne : T.free ≠ [] := fun h => by rw [h] at hx; cases hx
      rw [List.getLast?_eq_some_getLast hne] at hx
      rw [← Option.some.inj hx]
      exact (List.dropLast_concat_getLast hne).symm
    dsimp only
    rw [List.length_set]
    refine List.Perm.trans ?_ hp
    rw [List.perm_iff_count]
    intro a
    conv => rhs; rw [e]
    simp only [List.cons_append, List.count_append, List.count_cons, List.count_nil]
    omega
  · rename_i hx
    have e : T.free = [] := List.getLast?_eq_none_iff.1 hx
    dsimp only
    rw [e] at hp ⊢
    rw [List.append_nil] at hp ⊢
    rw [List.length_append, List.length_singleton, List.range_succ]
    exact (List.Perm.cons _ hp).trans (List.perm_append_singleton _ _).symm
  · rename_i x hx
    intro y hy
    dsimp only
    rw [List.getElem?_set_ne (fun e => (hlast x hx).2 (by rw [e]; exact hy))]
  · intro y hy
    dsimp only
    rw [List.getElem?_append_left (hmem y (List.mem_append.2 (.inl hy)))]
  · rename_i x hx; exact (hlast x hx).2
  · intro hx
    have := hmem _ (List.mem_append.2 (.inl hx))
    dsimp only at this; omega
  · dsimp only; rw [List.length_set]; omega
  · dsimp only; rw [List.length_append]; simp
  · exact .inl (by dsimp only; rw [List.length_set])
  · rename_i hx
    exact .inr (List.getLast?_eq_none_iff.1 hx)
  · rename_i x hx; dsimp only; rw [List.length_set]; exact (hlast x hx).1
  · dsimp only; simp
end Go.Proofs.Ytcbklkcpjldcjaa

/- The tree as data: a split. -/
namespace Go.Proofs.Ytcbklkcpjldcjaa
open Go.ChangeShapes Go.WideShapes Go.ChangeAt Go.RowKit
set_option maxRecDepth 100000
set_option linter.unusedSimpArgs false

theorem kid_split {nodes : List NodeM} {d kid : Nat} {L1 : PL} {ids1 : List Nat} {mk : NodeM} (hR : Rep nodes d kid L1 ids1) (hmk : nodes[kid]? = some mk) (hz : mk.size = 5) (hs : SortedL L1) (hnd : ids1.Nodup) :
    ∃ sep l1 l2 idlo idhi, mk.keys[mk.keys.length / 2]? = some sep ∧ L1 = l1 ++ l2 ∧ (∀ x ∈ l1, valCmp x.1 sep < 0) ∧ (∀ x ∈ l2, valCmp sep x.1 ≤ 0) ∧ l1 ≠ [] ∧ l2 ≠ [] ∧ 3 ≤ mk.keys.length ∧ mk.keys.length ≤ 1000 ∧
      (mk.leaf = true → mk.vals.length = mk.keys.length) ∧ (mk.leaf = false → mk.kids.length = mk.keys.length + 1) ∧
      (∀ nodes' nw, nodes'[kid]? = some mk.lo → nodes'[nw]? = some mk.hi → (∀ x ∈ ids1, x ≠ kid → nodes'[x]? = nodes[x]?) → Rep nodes' d kid l1 (kid :: idlo) ∧ Rep nodes' d nw l2 (nw :: idhi)) ∧
      ids1 = kid :: (idlo ++ idhi) ∧ mk.lo.size = (if mk.leaf then 2 else 3) ∧ mk.hi.size = (if mk.leaf then 3 else 2) := by
  cases d with
  | zero =>
    obtain ⟨m, hm, h1, h2, h3, h4, h5⟩ := hR
    rw [hmk] at hm; cases hm
    have hkl : mk.keys.length = 5 := by unfold NodeM.size at hz; rw [h1, if_pos rfl] at hz; exact hz
    have hsk : SortedK mk.keys := sortedK_of h3 (h4 ▸ hs)
    obtain ⟨sep, hsep⟩ : ∃ sep, mk.keys[2]? = some sep := ⟨_, List.getElem?_eq_getElem (by omega)⟩
    have hzl : (mk.keys.zip mk.vals).length = 5 := by rw [List.length_zip, h3, hkl]; rfl
    have h2l : (2 : Nat) < mk.keys.length := by omega
    refine ⟨sep, (mk.keys.zip mk.vals).take 2, (mk.keys.zip mk.vals).drop 2, [], [], by rw [hkl]; exact hsep, by rw [h4, List.take_append_drop], ?_, ?_, ?_, ?_, by omega, by omega, fun _ => h3, fun h => (by rw [h1] at h; cases h), ?_, by rw [h5]; rfl, ?_, ?_⟩
    · refine mem_take_get (fun j p hj hlt => ?_)
      have hg := zip_get hj
      have hjl := (List.getElem?_eq_some_iff.1 hg).1
      have := List.pairwise_iff_getElem.1 hsk j 2 hjl h2l hlt
      rw [List.getElem?_eq_getElem h2l] at hsep
      rw [List.getElem?_eq_getElem hjl] at hg
      rw [Option.some.inj hsep, Option.some.inj hg] at this
      exact this
    · refine mem_drop_get (fun j p hj hge => ?_)
      have hg := zip_get hj
      have hjl := (List.getElem?_eq_some_iff.1 hg).1
      rw [List.getElem?_eq_getElem h2l] at hsep
      by_cases he : j = 2
      · subst he
        rw [List.getElem?_eq_getElem h2l, hsep] at hg
        rw [Option.some.inj hg, cmp_self]
        exact Int.le_refl _
      · have := List.pairwise_iff_getElem.1 hsk 2 j h2l hjl (by omega)
        rw [List.getElem?_eq_getElem hjl] at hg
        rw [Option.some.inj hsep, Option.some.inj hg] at this
        omega
    · intro e; have := congrArg List.length e; rw [List.length_take, hzl] at this; simp at this
    · intro e; have := congrArg List.length e; rw [List.length_drop, hzl] at this; simp at this
    · intro nodes' nw hlo hhi _
      have hl5 : mk.vals.length = 5 := by omega
      refine ⟨⟨mk.lo, hlo, ?_⟩, ⟨mk.hi, hhi, ?_⟩⟩
      · simp only [NodeM.lo, h1, if_true, hkl]
        exact ⟨by trivial, h2, by rw [List.length_take, List.length_take, hkl, hl5], by rw [zip_take], by trivial⟩
      · simp only [NodeM.hi, h1, if_true, hkl]
        exact ⟨by trivial, by trivial, by rw [List.length_drop, List.length_drop, hkl, hl5], by rw [zip_drop], by trivial⟩
    · simp [NodeM.size, NodeM.lo, h1, hkl]
    · simp [NodeM.size, NodeM.hi, h1, hkl]
  | succ d =>
    obtain ⟨m, hm, h1, h2, cs, h3, h4, h5, h6, h7, h8, h9⟩ := hR
    rw [hmk] at hm; cases hm
    have hkid5 : mk.kids.length = 5 := by unfold NodeM.size at hz; rw [h1] at hz; simpa using hz
    have hcl : cs.length = 5 := by rw [h3, List.length_map] at hkid5; exact hkid5
    have hkl : mk.keys.length = 4 := by omega
    obtain ⟨sep, hsep⟩ : ∃ sep, mk.keys[2]? = some sep := ⟨_, List.getElem?_eq_getElem (by omega)⟩
    obtain ⟨g1, g2⟩ := h6 2 sep hsep
    have hne : ∀ c ∈ cs, c.L ≠ [] := fun c hc => by
      obtain ⟨hr, m', hm', hf, _⟩ := h5 c hc
      exact hr.some ⟨m', hm', by omega⟩
    have some_of : ∀ l : List Kid, l ≠ [] → (∀ c ∈ l, c ∈ cs) → l.flatMap Kid.L ≠ [] := fun l hl hsub e => by
      obtain ⟨c, hc⟩ := List.exists_mem_of_ne_nil _ hl
      obtain ⟨y, hy⟩ := List.exists_mem_of_ne_nil _ (hne c (hsub c hc))
      have : y ∈ l.flatMap Kid.L := List.mem_flatMap.2 ⟨c, hc, hy⟩
      rw [e] at this; cases this
    rw [h9] at hnd
    obtain ⟨hnk, _⟩ := List.nodup_cons.1 hnd
    refine ⟨sep, (cs.take 3).flatMap Kid.L, (cs.drop 3).flatMap Kid.L, (cs.take 3).flatMap Kid.ids, (cs.drop 3).flatMap Kid.ids, by rw [hkl]; exact hsep, ?_, g1, g2, ?_, ?_, by omega, by omega, fun h => (by rw [h1] at h; cases h), fun _ => by omega, ?_, ?_, ?_, ?_⟩
    · rw [h8, ← List.flatMap_append, List.take_append_drop]
    · exact some_of _ (fun e => by have := congrArg List.length e; rw [List.length_take, hcl] at this; simp at this) (fun c hc => List.mem_of_mem_take hc)
    · exact some_of _ (fun e => by have := congrArg List.length e; rw [List.length_drop, hcl] at this; simp at this) (fun c hc => List.mem_of_mem_drop hc)
    · intro nodes' nw hlo hhi hf
      have hf' : ∀ c ∈ cs, Rep nodes' d c.id c.L c.ids ∧ Fit nodes' c.id := fun c hc => by
        have hsub : ∀ x ∈ c.ids, nodes'[x]? = nodes[x]? := fun x hx => by
          have hm : x ∈ cs.flatMap Kid.ids := List.mem_flatMap.2 ⟨c, hc, hx⟩
          exact hf x (by rw [h9]; exact List.mem_cons_of_mem _ hm) (fun e => hnk (e ▸ hm))
        obtain ⟨hr, hfi⟩ := h5 c hc
        exact ⟨hr.frame hsub, hfi.frame (hsub _ hr.self)⟩
      refine ⟨⟨mk.lo, hlo, ?_⟩, ⟨mk.hi, hhi, ?_⟩⟩
      · simp only [NodeM.lo, h1, hkl]
        refine ⟨by trivial, h2, cs.take 3, by rw [h3, List.map_take]; rfl, ?_, fun c hc => hf' c (List.mem_of_mem_take hc), h6.take 2, h7.sublist (List.take_sublist _ _), rfl, rfl⟩
        simp [hkl, hcl]
      · simp only [NodeM.hi, h1, hkl]
        refine ⟨by trivial, by trivial, cs.drop 3, by rw [h3, List.map_drop]; rfl, ?_, fun c hc => hf' c (List.mem_of_mem_drop hc), h6.drop 3, h7.sublist (List.drop_sublist _ _), rfl, rfl⟩
        simp [hkl, hcl]
    · rw [h9, ← List.flatMap_append, List.take_append_drop]
    · simp [NodeM.size, NodeM.lo, h1, hkl, hkid5]
    · simp [NodeM.size, NodeM.hi, h1, hkl, hkid5]

theorem split_law {T : TM} {d i : Nat} {m mk : NodeM} {A Bs : List Kid} {c1 : Kid} {ctx : List Nat} (hi : T.nodes[i]? = some m) (hl : m.leaf = false) (hv : m.vals = []) (hk : m.kids = (A ++ c1 :: Bs).map Kid.id) (hlen : (A ++ c1 :: Bs).length = m.keys.length + 1)
    (hA : ∀ c ∈ A ++ Bs, Rep T.nodes d c.id c.L c.ids ∧ Fit T.nodes c.id) (h1 : Rep T.nodes d c1.id c1.L c1.ids) (hmk : T.nodes[c1.id]? = some mk) (hz : mk.size = 5) (hse : Seps m.keys (A ++ c1 :: Bs)) (hsk : SortedK m.keys) (hsL : SortedL c1.L)
    (hp : ((i :: (A ++ c1 :: Bs).flatMap Kid.ids) ++ ctx ++ T.free).Perm (List.range T.nodes.length)) (hbig : T.nodes.length ≤ 1000000) (hkb : m.keys.length ≤ 1000) :
    ∃ T3 ids3 m3, T.Split i A.length T3 ∧ Rep T3.nodes (d + 1) i ((A ++ c1 :: Bs).flatMap Kid.L) ids3 ∧ (ids3 ++ ctx ++ T3.free).Perm (List.range T3.nodes.length) ∧ (∀ x ∈ ctx, T3.nodes[x]? = T.nodes[x]?) ∧ T3.nodes[i]? = some m3 ∧ m3.leaf = false ∧ m3.size = m.size + 1 ∧
      T3.nodes.length ≤ T.nodes.length + 1 ∧ (T3.nodes.length = T.nodes.length ∨ T3.free = []) ∧ T3.k = T.k := by
  obtain ⟨q1, q2, q3, q4, q5, q6, q7, q8, q9⟩ := slot_law (b := mk.leaf) hp
  have hnd : ((i :: (A ++ c1 :: Bs).flatMap Kid.ids) ++ ctx ++ T.free).Nodup := hp.nodup_iff.2 List.nodup_range
  obtain ⟨hnd0, _, hnd4⟩ := List.nodup_append.1 hnd
  obtain ⟨hnd1, _, hnd3⟩ := List.nodup_append.1 hnd0
  obtain ⟨hni, hnd2⟩ := List.nodup_cons.1 hnd1
  rw [List.flatMap_append, List.flatMap_cons] at hnd2 hni
  have hnc1 : c1.ids.Nodup := (List.nodup_append.1 (List.nodup_append.1 hnd2).2.1).1
  obtain ⟨sep, l1, l2, idlo, idhi, hsep, hL, hl1, hl2, hn1, hn2, hk3, hkb2, hlv, hlk, hre, hids, hslo, hshi⟩ := kid_split h1 hmk hz hsL hnc1
  obtain ⟨nw, T2, hsl⟩ : ∃ nw T2, T.slot mk.leaf = (nw, T2) := ⟨_, _, rfl⟩
  have hkm : c1.id ∈ c1.ids := h1.self
  have hik : i ≠ c1.id := fun e => hni (by rw [e]; exact List.mem_append.2 (.inr (List.mem_append.2 (.inl hkm))))
  rw [hsl] at q1 q2 q3 q4 q5 q7
  dsimp only at q1 q2 q3 q4 q5 q7
  have hT2k : T2.k = T.k := by have := slot_k T mk.leaf; rw [hsl] at this; exact this
  have hmemall : ∀ c ∈ A ++ c1 :: Bs, ∀ x ∈ c.ids, x ∈ (i :: (A ++ c1 :: Bs).flatMap Kid.ids) ++ ctx := fun c hc x hx => List.mem_append.2 (.inl (List.mem_cons_of_mem _ (List.mem_flatMap.2 ⟨c, hc, hx⟩)))
  have hmi : i ∈ (i :: (A ++ c1 :: Bs).flatMap Kid.ids) ++ ctx := List.mem_append.2 (.inl (List.mem_cons_self ..))
  have hmk1 : c1.id ∈ (i :: (A ++ c1 :: Bs).flatMap Kid.ids) ++ ctx := hmemall c1 (by simp) _ hkm
  have hnwi : nw ≠ i := fun e => q3 (by rw [e]; exact hmi)
  have hnwk : nw ≠ c1.id := fun e => q3 (by rw [e]; exact hmk1)
  have hsz : ∀ x ∈ (i :: (A ++ c1 :: Bs).flatMap Kid.ids) ++ ctx, x < T2.nodes.length := fun x hx => by
    have := q1.mem_iff.1 (List.mem_append.2 (.inl (List.mem_cons_of_mem nw hx)))
    exact List.mem_range.1 this
  -- the nodes behind the split
  have hn3 : ∀ x, (T2.spl nw i c1.id A.length m mk sep).nodes[x]? = if i = x then some { m with keys := insAt m.keys A.length sep, kids := insAt m.kids (A.length + 1) nw } else if c1.id = x then some mk.lo else if nw = x then some mk.hi else T2.nodes[x]? := by
    intro x
    unfold TM.spl
    dsimp only
    rw [List.getElem?_set, List.length_set, List.length_set]
    by_cases e1 : i = x
    · rw [if_pos e1, if_pos e1, if_pos (hsz i hmi)]
    · rw [if_neg e1, if_neg e1, List.getElem?_set, List.length_set]
      by_cases e2 : c1.id = x
      · rw [if_pos e2, if_pos e2, if_pos (hsz _ hmk1)]
      · rw [if_neg e2, if_neg e2, List.getElem?_set]
        by_cases e3 : nw = x
        · rw [if_pos e3, if_pos e3, if_pos q7]
        · rw [if_neg e3, if_neg e3]
  have hold : ∀ x ∈ (i :: (A ++ c1 :: Bs).flatMap Kid.ids) ++ ctx, x ≠ i → x ≠ c1.id → (T2.spl nw i c1.id A.length m mk sep).nodes[x]? = T.nodes[x]? := fun x hx h1 h2 => by
    rw [hn3, if_neg (Ne.symm h1), if_neg (Ne.symm h2), if_neg (fun e => q3 (by rw [e]; exact hx)), q2 x hx]
  obtain ⟨r1, r2⟩ := hre (T2.spl nw i c1.id A.length m mk sep).nodes nw (by rw [hn3, if_neg hik, if_pos rfl]) (by rw [hn3, if_neg (Ne.symm hnwi), if_neg (Ne.symm hnwk), if_pos rfl]) (fun x hx hne => by
    refine hold x (hmemall c1 (by simp) x hx) (fun e => hni ?_) hne
    rw [← e]; exact List.mem_append.2 (.inr (List.mem_append.2 (.inl hx))))
  have hcA : m.kids[A.length]? = some c1.id := by rw [hk, List.getElem?_map, List.getElem?_append_right (Nat.le_refl _), Nat.sub_self]; rfl
  simp only [List.length_append, List.length_cons] at hlen
  obtain ⟨se1, se2⟩ := Seps.split (k1 := ⟨c1.id, l1, c1.id :: idlo⟩) (k2 := ⟨nw, l2, nw :: idhi⟩) (sep := sep) (by simp; omega) hse hsk hL hl1 hl2 hn1 hn2
  have hfit1 : Fit (T2.spl nw i c1.id A.length m mk sep).nodes c1.id := ⟨mk.lo, by rw [hn3, if_neg hik, if_pos rfl], by rw [hslo]; split <;> omega, by rw [hslo]; split <;> omega⟩
  have hfit2 : Fit (T2.spl nw i c1.id A.length m mk sep).nodes nw := ⟨mk.hi, by rw [hn3, if_neg (Ne.symm hnwi), if_neg (Ne.symm hnwk), if_pos rfl], by rw [hshi]; split <;> omega, by rw [hshi]; split <;> omega⟩
  have hothers : ∀ c ∈ A ++ Bs, Rep (T2.spl nw i c1.id A.length m mk sep).nodes d c.id c.L c.ids ∧ Fit (T2.spl nw i c1.id A.length m mk sep).nodes c.id := fun c hc => by
    have hcm : c ∈ A ++ c1 :: Bs := by rcases List.mem_append.1 hc with h | h <;> simp [h]
    have hsub : ∀ x ∈ c.ids, (T2.spl nw i c1.id A.length m mk sep).nodes[x]? = T.nodes[x]? := fun x hx => by
      refine hold x (hmemall c hcm x hx) (fun e => hni ?_) (fun e => ?_)
      · rw [← e, ← List.flatMap_cons, ← List.flatMap_append]; exact List.mem_flatMap.2 ⟨c, hcm, hx⟩
      · subst e
        obtain ⟨u1, u2, u3⟩ := List.nodup_append.1 hnd2
        obtain ⟨v1, v2, v3⟩ := List.nodup_append.1 u2
        rcases List.mem_append.1 hc with h | h
        · exact u3 _ (List.mem_flatMap.2 ⟨c, h, hx⟩) _ (List.mem_append.2 (.inl hkm)) rfl
        · exact v3 _ hkm _ (List.mem_flatMap.2 ⟨c, h, hx⟩) rfl
    obtain ⟨hr, hf⟩ := hA c hc
    exact ⟨hr.frame hsub, hf.frame (hsub _ hr.self)⟩
  refine ⟨T2.spl nw i c1.id A.length m mk sep, i :: (A ++ ⟨c1.id, l1, c1.id :: idlo⟩ :: ⟨nw, l2, nw :: idhi⟩ :: Bs).flatMap Kid.ids, { m with keys := insAt m.keys A.length sep, kids := insAt m.kids (A.length + 1) nw }, ?_, ?_, ?_, ?_, by rw [hn3, if_pos rfl], hl, ?_, ?_, ?_, ?_⟩
  · refine ⟨m, c1.id, mk, sep, hi, hcA, hmk, hsep, ⟨hik, fun x hx => ⟨(q6 x hx).1, fun e => (q6 x hx).2 (by rw [e]; exact hmi), fun e => (q6 x hx).2 (by rw [e]; exact hmk1)⟩, hbig, by omega, hkb2, by omega, by rw [hk, List.length_map]; simp; omega, hkb, hk3, hlv, hlk⟩, by rw [hsl]⟩
  · refine ⟨{ m with keys := insAt m.keys A.length sep, kids := insAt m.kids (A.length + 1) nw }, by rw [hn3, if_pos rfl], hl, hv, A ++ ⟨c1.id, l1, c1.id :: idlo⟩ :: ⟨nw, l2, nw :: idhi⟩ :: Bs, ?_, ?_, ?_, se1, se2, ?_, rfl⟩
    · dsimp only
      unfold insAt
      rw [hk, List.map_append, List.map_cons]
      have e1 : A.length + 1 = (A.map Kid.id ++ [c1.id]).length := by simp
      have e2 : A.map Kid.id ++ c1.id :: Bs.map Kid.id = (A.map Kid.id ++ [c1.id]) ++ Bs.map Kid.id := by simp
      rw [e2, e1, List.take_left, List.drop_left]
      simp
    · dsimp only; rw [insAt_len]; simp; omega
    · intro c hc
      rcases List.mem_append.1 hc with h | h
      · exact hothers c (List.mem_append.2 (.inl h))
      · rcases List.mem_cons.1 h with rfl | h
        · exact ⟨r1, hfit1⟩
        · rcases List.mem_cons.1 h with rfl | h
          · exact ⟨r2, hfit2⟩
          · exact hothers c (List.mem_append.2 (.inr h))
    · simp only [List.flatMap_append, List.flatMap_cons, hL, List.append_assoc]
  · have hlen3 : (T2.spl nw i c1.id A.length m mk sep).nodes.length = T2.nodes.length := by unfold TM.spl; simp
    have hfree3 : (T2.spl nw i c1.id A.length m mk sep).free = T2.free := rfl
    rw [hlen3, hfree3]
    refine List.Perm.trans ?_ q1
    rw [List.perm_iff_count]
    intro a
    simp only [List.flatMap_append, List.flatMap_cons, hids, List.cons_append, List.count_append, List.count_cons, List.append_assoc]
    omega
  · intro x hx
    refine hold x (List.mem_append.2 (.inr hx)) (fun e => ?_) (fun e => ?_)
    · exact hnd3 _ (List.mem_cons_self ..) _ hx e.symm
    · exact hnd3 _ (List.mem_cons_of_mem _ (List.mem_flatMap.2 ⟨c1, by simp, hkm⟩)) _ hx e.symm
  · unfold NodeM.size
    dsimp only
    rw [hl]
    simp [insAt_len]
  · unfold TM.spl; simp; omega
  · unfold TM.spl; simp; exact q5
  · unfold TM.spl; exact hT2k
end Go.Proofs.Ytcbklkcpjldcjaa

/- The tree as data: put below a node. -/
namespace Go.Proofs.Ytcbklkcpjldcjaa
open Go.ChangeShapes Go.WideShapes Go.ChangeAt Go.RowKit
set_option maxRecDepth 100000
set_option linter.unusedSimpArgs false

/-- the nodes below, parted at the one in which a key is to be found -/
theorem kid_part {keys : List Val} {cs : List Kid} (k : Val) (hlen : cs.length = keys.length + 1) (hse : Seps keys cs) (hsk : SortedK keys) :
    ∃ A c Bs, cs = A ++ c :: Bs ∧ A.length = belowF keys k ∧ (∀ x ∈ A.flatMap Kid.L, valCmp x.1 k < 0) ∧ (∀ x ∈ Bs.flatMap Kid.L, valCmp k x.1 < 0) ∧
      (∀ j y, keys[j]? = some y → if A.length ≤ j then valCmp k y < 0 else valCmp y k ≤ 0) := by
  have hb := belowF_le keys k
  have hlt : belowF keys k < cs.length := by omega
  have hAl : (cs.take (belowF keys k)).length = belowF keys k := by rw [List.length_take]; omega
  have hsp := belowF_spec k hsk
  refine ⟨cs.take (belowF keys k), cs[belowF keys k], cs.drop (belowF keys k + 1), ?_, hAl, ?_, ?_, ?_⟩
  · rw [← List.drop_eq_getElem_cons hlt, List.take_append_drop]
  · intro x hx
    by_cases h0 : belowF keys k = 0
    · rw [h0] at hx; simp at hx
    · obtain ⟨y, hy⟩ : ∃ y, keys[belowF keys k - 1]? = some y := ⟨_, List.getElem?_eq_getElem (by omega)⟩
      have h1 := (hse _ y hy).1 x (by rw [show belowF keys k - 1 + 1 = belowF keys k by omega]; exact hx)
      exact lt_le h1 ((hsp _ y hy).1 (by omega))
  · intro x hx
    by_cases h0 : belowF keys k = keys.length
    · rw [h0, List.drop_of_length_le (by omega)] at hx; simp at hx
    · obtain ⟨y, hy⟩ : ∃ y, keys[belowF keys k]? = some y := ⟨_, List.getElem?_eq_getElem (by omega)⟩
      have h1 := (hse _ y hy).2 x hx
      have h2 : ¬ valCmp y k ≤ 0 := fun h => by have := (hsp _ y hy).2 h; omega
      exact lt_le ((gt_iff _ _).1 (by omega)) h1
  · intro j y hy
    rw [hAl]
    split
    · have h2 : ¬ valCmp y k ≤ 0 := fun h => by have := (hsp _ y hy).2 h; omega
      exact (gt_iff _ _).1 (by omega)
    · exact (hsp _ y hy).1 (by omega)
theorem sorted_mid {A B C : PL} (h : SortedL (A ++ B ++ C)) : SortedL B := (List.pairwise_append.1 (List.pairwise_append.1 h).1).2.1
theorem right_mid {A B C : PL} (h : RightL (A ++ B ++ C)) : RightL B := fun x hx => h x (by simp [hx])

theorem put_law {k : Val} {v : VT} (hk : valRight k = true) : ∀ (d : Nat) (T : TM) (i : Nat) (L : PL) (ids ctx : List Nat), Rep T.nodes d i L ids → (ids ++ ctx ++ T.free).Perm (List.range T.nodes.length) → SortedL L → RightL L → T.nodes.length + d ≤ 1000000 → (∀ m, T.nodes[i]? = some m → m.size ≤ 4) →
    ∃ T' ids' m m', T.PutR k v i T' (!hasK L k) ∧ Rep T'.nodes d i (insL L k v) ids' ∧ (ids' ++ ctx ++ T'.free).Perm (List.range T'.nodes.length) ∧ (∀ x ∈ ctx, T'.nodes[x]? = T.nodes[x]?) ∧ T.nodes[i]? = some m ∧ T'.nodes[i]? = some m' ∧ m'.leaf = m.leaf ∧ m.size ≤ m'.size ∧ m'.size ≤ m.size + 1 ∧
      T'.nodes.length ≤ T.nodes.length + d ∧ (T'.nodes.length = T.nodes.length ∨ T'.free = [])
  | 0, T, i, L, ids, ctx, ⟨m, hm, h1, h2, h3, h4, h5⟩, hp, hs, hr, hbig, hz => by
    have hm4 := hz m hm
    have hkl : m.keys.length ≤ 4 := by unfold NodeM.size at hm4; rw [h1, if_pos rfl] at hm4; exact hm4
    have hlt := (List.getElem?_eq_some_iff.1 hm).1
    have hnd : (ids ++ ctx ++ T.free).Nodup := hp.nodup_iff.2 List.nodup_range
    have hni : ∀ x ∈ ctx, i ≠ x := fun x hx e => (List.nodup_append.1 (List.nodup_append.1 hnd).1).2.2 i (by rw [h5]; simp) x hx e
    rw [h4] at hs hr
    cases hb : bsIs m.keys k
    · obtain ⟨e1, e2⟩ := leaf_fresh (v := v) h3 hs hb
      refine ⟨{ T with nodes := T.nodes.set i { m with keys := insAt m.keys (bsAt m.keys k) k, vals := insAt m.vals (bsAt m.keys k) v } }, ids, m, { m with keys := insAt m.keys (bsAt m.keys k) k, vals := insAt m.vals (bsAt m.keys k) v }, ?_, ⟨{ m with keys := insAt m.keys (bsAt m.keys k) k, vals := insAt m.vals (bsAt m.keys k) v }, ?_, h1, h2, ?_, ?_, h5⟩, ?_, ?_, hm, ?_, rfl, ?_, ?_, ?_, ?_⟩
      · rw [h4, e2]; exact TM.PutR.fresh hm h1 (by omega) h3 hb
      · dsimp only; rw [List.getElem?_set_self hlt]
      · dsimp only; rw [insAt_len, insAt_len, h3]
      · dsimp only; rw [e1, h4]
      · dsimp only; rw [List.length_set]; exact hp
      · intro x hx; dsimp only; rw [List.getElem?_set_ne (hni x hx)]
      · dsimp only; rw [List.getElem?_set_self hlt]
      · unfold NodeM.size; dsimp only; rw [h1]; simp [insAt_len]
      · unfold NodeM.size; dsimp only; rw [h1]; simp [insAt_len]
      · dsimp only; rw [List.length_set]; omega
      · exact .inl (by dsimp only; rw [List.length_set])
    · obtain ⟨e1, e2⟩ := leaf_found (v := v) h3 hs hr hk hb
      refine ⟨{ T with nodes := T.nodes.set i { m with vals := m.vals.set (bsAt m.keys k) v } }, ids, m, { m with vals := m.vals.set (bsAt m.keys k) v }, ?_, ⟨{ m with vals := m.vals.set (bsAt m.keys k) v }, ?_, h1, h2, ?_, ?_, h5⟩, ?_, ?_, hm, ?_, rfl, ?_, ?_, ?_, ?_⟩
      · rw [h4, e2]; exact TM.PutR.found hm h1 (by omega) h3 hb
      · dsimp only; rw [List.getElem?_set_self hlt]
      · dsimp only; rw [List.length_set, h3]
      · dsimp only; rw [e1, h4]
      · dsimp only; rw [List.length_set]; exact hp
      · intro x hx; dsimp only; rw [List.getElem?_set_ne (hni x hx)]
      · dsimp only; rw [List.getElem?_set_self hlt]
      · exact Nat.le_refl _
      · unfold NodeM.size; dsimp only; omega
      · dsimp only; rw [List.length_set]; omega
      · exact .inl (by dsimp only; rw [List.length_set])
  | d + 1, T, i, L, ids, ctx, ⟨m, hm, h1, h2, cs, h3, h4, h5, h6, h7, h8, h9⟩, hp, hs, hr, hbig, hz => by
    obtain ⟨A, c, Bs, hcs, hAl, hA, hB, hpk⟩ := kid_part k h4 h6 h7
    subst hcs
    have hm4 := hz m hm
    have hkids : m.kids.length ≤ 4 := by unfold NodeM.size at hm4; rw [h1] at hm4; simpa using hm4
    have hkl : m.keys.length ≤ 3 := by rw [h3, List.length_map] at hkids; omega
    have eL : L = A.flatMap Kid.L ++ c.L ++ Bs.flatMap Kid.L := by rw [h8]; simp
    obtain ⟨hcr, mk0, hmk0, hf1, hf2⟩ := h5 c (by simp)
    have hp1 : (c.ids ++ (i :: A.flatMap Kid.ids ++ Bs.flatMap Kid.ids ++ ctx) ++ T.free).Perm (List.range T.nodes.length) := by
      refine List.Perm.trans ?_ hp
      rw [h9, List.perm_iff_count]
      intro a
      simp only [List.flatMap_append, List.flatMap_cons, List.cons_append, List.count_append, List.count_cons, List.append_assoc]
      omega
    rw [eL] at hs hr
    obtain ⟨T1, ids1, mk, mk1, g1, g2, g3, g4, g5, g6, g7, g8, g9, g10, g11⟩ := put_law hk d T c.id c.L c.ids (i :: A.flatMap Kid.ids ++ Bs.flatMap Kid.ids ++ ctx) hcr hp1 (sorted_mid hs) (right_mid hr) (by omega) (fun m' hm' => by rw [hmk0] at hm'; cases hm'; exact hf2)
    rw [hmk0] at g5; cases g5
    have hi1 : T1.nodes[i]? = some m := by rw [g4 i (by simp)]; exact hm
    have hkid : m.kids[belowF m.keys k]? = some c.id := by rw [h3, ← hAl, List.getElem?_map, List.getElem?_append_right (Nat.le_refl _), Nat.sub_self]; rfl
    have eI : insL L k v = (A ++ ⟨c.id, insL c.L k v, ids1⟩ :: Bs).flatMap Kid.L := by rw [eL, insL_mid hA hB]; simp
    have eH : hasK L k = hasK c.L k := by rw [eL, hasK_mid hA hB]
    have hse : Seps m.keys (A ++ ⟨c.id, insL c.L k v, ids1⟩ :: Bs) := h6.swap (p := (k, v)) (fun x hx => (mem_insL hx).imp (fun h => by rw [h]) (fun h => h)) hpk
    have hoth : ∀ c' ∈ A ++ Bs, Rep T1.nodes d c'.id c'.L c'.ids ∧ Fit T1.nodes c'.id := fun c' hc' => by
      have hsub : ∀ x ∈ c'.ids, T1.nodes[x]? = T.nodes[x]? := fun x hx => g4 x (by
        rcases List.mem_append.1 hc' with h | h
        · have : x ∈ A.flatMap Kid.ids := List.mem_flatMap.2 ⟨c', h, hx⟩
          simp only [List.cons_append, List.mem_cons, List.mem_append]; exact .inr (.inl (.inl this))
        · have : x ∈ Bs.flatMap Kid.ids := List.mem_flatMap.2 ⟨c', h, hx⟩
          simp only [List.cons_append, List.mem_cons, List.mem_append]; exact .inr (.inl (.inr this)))
      obtain ⟨hr', hf'⟩ := h5 c' (by rcases List.mem_append.1 hc' with h | h <;> simp [h])
      exact ⟨hr'.frame hsub, hf'.frame (hsub _ hr'.self)⟩
    have hlen' : (A ++ ⟨c.id, insL c.L k v, ids1⟩ :: Bs).length = m.keys.length + 1 := by rw [← h4]; simp
    have hmap' : m.kids = (A ++ ⟨c.id, insL c.L k v, ids1⟩ :: Bs).map Kid.id := by rw [h3]; simp
    by_cases hz1 : mk1.size ≤ 4
    · refine ⟨T1, i :: (A ++ ⟨c.id, insL c.L k v, ids1⟩ :: Bs).flatMap Kid.ids, m, m, ?_, ⟨m, hi1, h1, h2, A ++ ⟨c.id, insL c.L k v, ids1⟩ :: Bs, hmap', hlen', ?_, hse, h7, eI, rfl⟩, ?_, fun x hx => g4 x (by simp [hx]), hm, hi1, rfl, Nat.le_refl _, Nat.le_succ _, by omega, g11⟩
      · rw [eH]; exact TM.PutR.inner hm h1 (by omega) hkid g1 g6 hz1
      · intro c' hc'
        rcases List.mem_append.1 hc' with h | h
        · exact hoth c' (List.mem_append.2 (.inl h))
        · rcases List.mem_cons.1 h with rfl | h
          · exact ⟨g2, mk1, g6, by omega, hz1⟩
          · exact hoth c' (List.mem_append.2 (.inr h))
      · refine List.Perm.trans ?_ g3
        rw [List.perm_iff_count]
        intro a
        simp only [List.flatMap_append, List.flatMap_cons, List.cons_append, List.count_append, List.count_cons, List.append_assoc]
        omega
    · have hp3 : ((i :: (A ++ ⟨c.id, insL c.L k v, ids1⟩ :: Bs).flatMap Kid.ids) ++ ctx ++ T1.free).Perm (List.range T1.nodes.length) := by
        refine List.Perm.trans ?_ g3
        rw [List.perm_iff_count]
        intro a
        simp only [List.flatMap_append, List.flatMap_cons, List.cons_append, List.count_append, List.count_cons, List.append_assoc]
        omega
      obtain ⟨T3, ids3, m3, q1, q2, q3, q4, q5, q6, q7, q8, q9, _⟩ := split_law (c1 := ⟨c.id, insL c.L k v, ids1⟩) hi1 h1 h2 hmap' hlen' hoth g2 g6 (by omega) hse h7 (insL_sorted (sorted_mid hs)) hp3 (by omega) (by omega)
      refine ⟨T3, ids3, m, m3, ?_, by rw [eI]; exact q2, q3, fun x hx => (q4 x hx).trans (g4 x (by simp [hx])), hm, q5, by rw [q6, h1], by omega, by omega, by omega, ?_⟩
      · rw [eH]; exact TM.PutR.grown hm h1 (by omega) hkid g1 g6 (by omega) (by rw [← hAl]; exact q1)
      · rcases q9 with q9 | q9
        · rcases g11 with g | g
          · exact .inl (by omega)
          · refine .inr ?_
            have e1 := q3.length_eq
            have e2 := hp3.length_eq
            have e3 := g3.length_eq
            have hsf : T3.free.length ≤ T1.free.length := by
              obtain ⟨mi, kid, mk', sep, _, _, _, _, _, rfl⟩ := q1
              unfold TM.spl TM.slot
              split
              · simp
              · simp
            rw [g] at hsf
            exact List.length_eq_zero_iff.1 (by simpa using hsf)
        · exact .inr q9
end Go.Proofs.Ytcbklkcpjldcjaa

/- The tree: Put, by what the tree stands for. -/
namespace Go.Proofs.Ytcbklkcpjldcjaa
open Go.ChangeShapes Go.WideShapes Go.ChangeAt Go.RowKit
set_option maxRecDepth 100000
set_option linter.unusedSimpArgs false

theorem insL_nil (k : Val) (v : VT) : insL [] k v = [(k, v)] := rfl
theorem insL_lt {L : PL} {x : Val × VT} {k : Val} {v : VT} (h : valCmp x.1 k < 0) : insL (x :: L) k v = x :: insL L k v := by
  unfold insL
  rw [List.filter_cons_of_pos (by simpa using h), List.filter_cons_of_neg (by simp; omega)]
  rfl
theorem all_gt {L : PL} {x : Val × VT} {k : Val} (hs : SortedL (x :: L)) (h : ¬ valCmp x.1 k < 0) : ∀ y ∈ L, valCmp k y.1 < 0 := fun y hy => by
  have h1 := (List.pairwise_cons.1 hs).1 y hy
  have h2 : valCmp k x.1 ≤ 0 := by rw [cmp_swap]; omega
  exact le_lt h2 h1
theorem insL_ge {L : PL} {x : Val × VT} {k : Val} {v : VT} (hs : SortedL (x :: L)) (h : ¬ valCmp x.1 k < 0) : insL (x :: L) k v = if valCmp x.1 k = 0 then (k, v) :: L else (k, v) :: x :: L := by
  have hL := all_gt hs h
  split
  · rename_i h0
    exact insL_at (A := []) (M := [x]) (Bs := L) (by simp) (by intro y hy; simp at hy; subst hy; exact h0) hL
  · rename_i h0
    exact insL_at (A := []) (M := []) (Bs := x :: L) (by simp) (by simp) (fun y hy => by
      rcases List.mem_cons.1 hy with rfl | hy
      · exact (gt_iff _ _).1 (by omega)
      · exact hL y hy)
theorem insL_len {k : Val} {v : VT} : ∀ {L : PL}, SortedL L → (insL L k v).length = L.length + (if hasK L k then 0 else 1)
  | [], _ => by simp [insL_nil, hasK]
  | x :: L, hs => by
    by_cases h : valCmp x.1 k < 0
    · rw [insL_lt h, List.length_cons, insL_len (List.pairwise_cons.1 hs).2]
      have : hasK (x :: L) k = hasK L k := by simp [hasK]; omega
      rw [this, List.length_cons]; omega
    · rw [insL_ge hs h]
      split
      · rename_i h0
        have : hasK (x :: L) k = true := by simp [hasK, h0]
        rw [this]; simp
      · rename_i h0
        have : hasK (x :: L) k = false := by
          unfold hasK
          refine List.any_eq_false.2 (fun y hy => ?_)
          rcases List.mem_cons.1 hy with rfl | hy
          · simpa using h0
          · have := (gt_iff y.1 k).2 (all_gt hs h y hy)
            simp; omega
        rw [this]; simp

/-- what a tree stands for -/
structure Good (T : TM) (L : PL) : Prop where
  sorted : SortedL L
  right : RightL L
  many : T.k.many = (L.length : Int)
  rep : (T.k.root < 0 ∧ L = [] ∧ T.k.depth = 0 ∧ T.free.Perm (List.range T.nodes.length)) ∨
    ∃ (r d : Nat) (ids : List Nat) (m : NodeM), T.k.root = (r : Int) ∧ T.k.depth = (d : Int) + 1 ∧ Rep T.nodes d r L ids ∧ (ids ++ T.free).Perm (List.range T.nodes.length) ∧ T.nodes[r]? = some m ∧ (if m.leaf then 1 else 2) ≤ m.size ∧ m.size ≤ 4
/-- n things were done -/
structure Small (T : TM) (L : PL) (n : Nat) : Prop where
  depth : T.k.depth ≤ (n : Int)
  nodes : T.nodes.length ≤ n * (n + 3)
  len : L.length ≤ n
def putL (L : PL) (k : Val) (v : VT) : PL := if valRight k then insL L k v else L
def putB (L : PL) (k : Val) : Bool := valRight k && !hasK L k
theorem small_next (n : Nat) : n * (n + 3) + n + 1 ≤ (n + 1) * (n + 1 + 3) := by
  have : (n + 1) * (n + 1 + 3) = n * (n + 3) + 2 * n + 4 := by simp only [Nat.add_mul, Nat.mul_add]; omega
  omega
theorem Small.bound {T : TM} {L : PL} {n : Nat} (h : Small T L n) (hn : n ≤ 500) : T.nodes.length ≤ 251500 ∧ T.k.depth ≤ 500 ∧ L.length ≤ 500 := by
  have h1 := h.nodes
  have h2 := h.depth
  have h3 := h.len
  have h4 : n * (n + 3) ≤ 500 * 503 := Nat.mul_le_mul (by omega) (by omega)
  omega
theorem room_trans {a b c : Nat} {f g : List Nat} (h1 : b = a ∨ f = []) (h2 : c = b ∨ g = []) (h3 : g.length ≤ f.length) : c = a ∨ g = [] := by
  rcases h2 with h2 | h2
  · rcases h1 with h1 | h1
    · exact .inl (by omega)
    · rw [h1] at h3; exact .inr (List.length_eq_zero_iff.1 (by simpa using h3))
  · exact .inr h2
theorem slot_free (T : TM) (b : Bool) : (T.slot b).2.free.length ≤ T.free.length := by unfold TM.slot; split <;> simp
theorem TM.Split.free {T T' : TM} {i c : Nat} (h : T.Split i c T') : T'.free.length ≤ T.free.length := by
  obtain ⟨mi, kid, mk', sep, _, _, _, _, _, rfl⟩ := h
  exact slot_free T _

theorem slot_grow (T : TM) (b : Bool) : T.nodes.length ≤ (T.slot b).2.nodes.length := by unfold TM.slot; split <;> simp
theorem TM.Split.grow {T T' : TM} {i c : Nat} (h : T.Split i c T') : T.nodes.length ≤ T'.nodes.length := by
  obtain ⟨mi, kid, mk', sep, _, _, _, _, _, rfl⟩ := h
  refine Nat.le_trans (slot_grow T mk'.leaf) ?_
  simp [TM.spl]
theorem TM.PutR.grow {k : Val} {v : VT} {T T' : TM} {i : Nat} {fr : Bool} (h : T.PutR k v i T' fr) : T.nodes.length ≤ T'.nodes.length := by
  induction h with
  | found => simp
  | fresh => simp
  | inner _ _ _ _ _ _ _ ih => exact ih
  | grown _ _ _ _ _ _ _ hs ih => exact Nat.le_trans ih hs.grow

theorem slot_node (T : TM) (b : Bool) (h : ∀ x, T.free.getLast? = some x → x < T.nodes.length) : (T.slot b).2.nodes[(T.slot b).1]? = some (freshM b) := by
  unfold TM.slot
  split
  · rename_i x hx
    dsimp only
    rw [List.getElem?_set_self (h x hx)]
  · simp
/-- the state behind Put -/
structure Next (T T' : TM) (L L' : PL) : Prop where
  good : Good T' L'
  depth : T'.k.depth ≤ T.k.depth + 1
  nodes : (T'.nodes.length : Int) ≤ T.nodes.length + T.k.depth + 1
  len : L'.length ≤ L.length + 1
  room : T'.nodes.length = T.nodes.length ∨ T'.free = []
  grow : T.nodes.length ≤ T'.nodes.length
theorem Next.small {T T' : TM} {L L' : PL} {n : Nat} (h : Next T T' L L') (hs : Small T L n) : Small T' L' (n + 1) := by
  have h1 := hs.depth
  have h2 := hs.nodes
  have h3 := hs.len
  have h4 := h.depth
  have h5 := h.nodes
  have h6 := h.len
  have h7 := small_next n
  exact ⟨by omega, by omega, by omega⟩

set_option maxHeartbeats 1000000 in
theorem Put_ok {B w : World} {D : PH} {t n : Nat} {T : TM} {L : PL} {l : List HP} (k : Val) (v : VT) (hG : Good T L) (hS : Small T L n) (hn : n ≤ 500) (h : TreeA B D w t T l) :
    Calls Try.prog 39 #[.pointer (some ⟨t, 0, none⟩), k.v, v.v] w fun e w' => ∃ T', e = .returned (.bool (putB L k)) ∧ TreeA B D w' t T' l ∧ Next T T' L (putL L k v) := by
  have hk0 : 0 ≤ T.k.depth := by rcases hG.rep with ⟨_, _, h, _⟩ | ⟨r, d, ids, m, _, h, _⟩ <;> omega
  obtain ⟨b1, b2, b3⟩ := hS.bound hn
  cases hr : valRight k
  · refine (Put_bad hr (.inr ⟨t, rfl⟩)).mono ?_
    rintro e w' ⟨rfl, hk⟩
    refine ⟨T, by unfold putB; rw [hr]; rfl, h.kept hk, ?_⟩
    unfold putL
    rw [hr]
    exact ⟨hG, by omega, by omega, by simp, .inl rfl, Nat.le_refl _⟩
  · have eL : putL L k v = insL L k v := by unfold putL; rw [hr]; rfl
    have eB : putB L k = !hasK L k := by unfold putB; rw [hr]; rfl
    rw [eL, eB]
    have hlenI := insL_len (k := k) (v := v) hG.sorted
    have hsI := insL_sorted (k := k) (v := v) hG.sorted
    have hrI := insL_right (v := v) hr hG.right
    have hmore : ∀ fr : Bool, fr = (!hasK L k) → T.k.many + (if fr then 1 else 0) = ((insL L k v).length : Int) := by
      intro fr e
      rw [hlenI, hG.many, e]
      cases hasK L k <;> simp
    have hfit : T.k.fit := by
      have := hG.many
      exact ⟨by omega, by omega, by omega, by omega⟩
    have mm : ∀ (T1 : TM) (fr : Bool), (T1.more fr).k.root = T1.k.root ∧ (T1.more fr).k.depth = T1.k.depth ∧ (T1.more fr).nodes = T1.nodes ∧ (T1.more fr).free = T1.free ∧ (T1.more fr).k.many = T1.k.many + (if fr then 1 else 0) := by
      intro T1 fr; cases fr <;> simp [TM.more]
    rcases hG.rep with ⟨hr0, rfl, hd0, hp⟩ | ⟨r, d, ids, m, hroot, hdep, hR, hp, hm, hm1, hm4⟩
    · -- the first key
      obtain ⟨q1, q2, q3, q4, q5, q6, q7, q8, q9⟩ := slot_law (T := T) (b := true) (xs := []) (by simpa using hp)
      have hsl : T.maySlot := ⟨fun x hx => (q6 x hx).1, by omega, by omega⟩
      have hnode := slot_node T true hsl.1
      obtain ⟨T1, ids1, m0, m1, g1, g2, g3, g4, g5, g6, g7, g8, g9, g10, g11⟩ := put_law (v := v) hr 0 T.first (T.slot true).1 [] [(T.slot true).1] [] ⟨freshM true, hnode, rfl, rfl, rfl, rfl, rfl⟩ (by simpa [TM.first] using q1) (by simp) (by intro x hx; simp at hx) (by simp [TM.first]; omega) (fun m hm => by
        have hm' : (T.slot true).2.nodes[(T.slot true).1]? = some m := hm
        rw [hnode] at hm'; cases hm'; simp [NodeM.size, freshM])
      have hm0 : m0 = freshM true := by
        have hm' : (T.slot true).2.nodes[(T.slot true).1]? = some m0 := g5
        rw [hnode] at hm'; cases hm'; rfl
      have hz1 : m1.size ≤ 4 := by have : m0.size = 0 := by rw [hm0]; rfl
                                   omega
      refine (Put_new hr hr0 hsl hfit g1 g6 hz1 h).mono ?_
      rintro e w' ⟨rfl, ha⟩
      obtain ⟨e1, e2, e3, e4, e5⟩ := mm T1 (!hasK ([] : PL) k)
      have hk1 : T1.k = { T.k with root := ((T.slot true).1 : Int), depth := 1 } := g1.keep
      have hfn : T.first.nodes = (T.slot true).2.nodes := rfl
      have hff : T.first.free = (T.slot true).2.free := rfl
      have hlf : m1.leaf = true := by rw [g7, hm0]; rfl
      refine ⟨_, rfl, ha, ⟨hsI, hrI, ?_, .inr ⟨(T.slot true).1, 0, ids1, m1, ?_, ?_, ?_, ?_, ?_, ?_, hz1⟩⟩, ?_, ?_, by simp [insL_nil], ?_, ?_⟩
      · rw [e5, hk1]; exact hmore _ rfl
      · rw [e1, hk1]
      · rw [e2, hk1]; rfl
      · rw [e3]; exact g2
      · rw [e3, e4]; simpa using g3
      · rw [e3]; exact g6
      · rw [hlf, if_pos rfl]
        obtain ⟨m', hm', _, _, h3, h4, _⟩ := g2
        rw [g6] at hm'; cases hm'
        have := congrArg List.length h4
        rw [insL_nil, List.length_zip, h3] at this
        unfold NodeM.size
        rw [hlf, if_pos rfl]
        simp at this; omega
      · rw [e2, hk1]; show (1 : Int) ≤ _; omega
      · rw [e3]; rw [hfn] at g10; omega
      · rw [e3, e4]
        refine room_trans q5 (by rw [hfn] at g11; exact g11) ?_
        have := g3.length_eq
        have h2 := q1.length_eq
        simp at this h2
        obtain ⟨m', _, _, _, _, _, h5⟩ := g2
        rw [h5] at this
        rw [hfn] at g10
        simp at this; omega
      · rw [e3]; exact Nat.le_trans (slot_grow T true) g1.grow
    · obtain ⟨T1, ids1, m0, m1, g1, g2, g3, g4, g5, g6, g7, g8, g9, g10, g11⟩ := put_law (v := v) hr d T r L ids [] hR (by simpa using hp) hG.sorted hG.right (by omega) (fun m' hm' => by rw [hm] at hm'; cases hm'; exact hm4)
      rw [hm] at g5; cases g5
      have hk1 : T1.k = T.k := g1.keep
      simp only [List.append_nil] at g3
      by_cases hz1 : m1.size ≤ 4
      · refine (Put_small hr hroot hfit g1 g6 hz1 h).mono ?_
        rintro e w' ⟨rfl, ha⟩
        obtain ⟨e1, e2, e3, e4, e5⟩ := mm T1 (!hasK L k)
        refine ⟨_, rfl, ha, ⟨hsI, hrI, ?_, .inr ⟨r, d, ids1, m1, ?_, ?_, ?_, ?_, ?_, ?_, hz1⟩⟩, ?_, ?_, ?_, ?_, ?_⟩
        · rw [e5, hk1]; exact hmore _ rfl
        · rw [e1, hk1]; exact hroot
        · rw [e2, hk1]; exact hdep
        · rw [e3]; exact g2
        · rw [e3, e4]; exact g3
        · rw [e3]; exact g6
        · rw [g7]; omega
        · rw [e2, hk1]; omega
        · rw [e3]; omega
        · rw [hlenI]; split <;> omega
        · rw [e3, e4]; exact g11
        · rw [e3]; exact g1.grow
      · obtain ⟨q1, q2, q3, q4, q5, q6, q7, q8, q9⟩ := slot_law (T := T1) (b := false) (xs := ids1) g3
        have hsl : T1.maySlot := ⟨fun x hx => (q6 x hx).1, by omega, by omega⟩
        have hlt : (T1.slot false).1 < (T1.slot false).2.nodes.length := q7
        have hrm : r ∈ ids1 := g2.self
        have hne : ∀ x ∈ ids1, (T1.slot false).1 ≠ x := fun x hx e => q3 (by rw [e]; exact hx)
        have hnt : ∀ x ∈ ids1, (T1.top r).nodes[x]? = T1.nodes[x]? := fun x hx => by
          unfold TM.top; dsimp only
          rw [List.getElem?_set_ne (hne x hx)]
          exact q2 x hx
        have htop : (T1.top r).nodes[(T1.slot false).1]? = some { freshM false with kids := [r] } := by
          unfold TM.top; dsimp only
          rw [List.getElem?_set_self hlt]
        have hlen2 : (T1.top r).nodes.length = (T1.slot false).2.nodes.length := by unfold TM.top; simp
        obtain ⟨T3, ids3, m3, s1, s2, s3, s4, s5, s6, s7, s8, s9, s10⟩ := split_law (T := T1.top r) (d := d) (i := (T1.slot false).1) (m := { freshM false with kids := [r] }) (mk := m1) (A := []) (Bs := []) (c1 := ⟨r, insL L k v, ids1⟩) (ctx := []) htop rfl rfl rfl rfl (by simp)
          (g2.frame hnt) (by rw [hnt r hrm]; exact g6) (by omega) (by intro j y hy; simp [freshM] at hy) (by simp [freshM]) hsI (by rw [hlen2]; simpa [TM.top] using q1) (by omega) (by simp [freshM])
        refine (Put_grown hr hroot hfit g1 g6 (by omega) hsl s1 h).mono ?_
        rintro e w' ⟨rfl, ha⟩
        obtain ⟨e1, e2, e3, e4, e5⟩ := mm (T3.high (T1.slot false).1) (!hasK L k)
        have hk3 : T3.k = T.k := by rw [s10]; show (T1.slot false).2.k = _; rw [slot_k, hk1]
        refine ⟨_, rfl, ha, ⟨hsI, hrI, ?_, .inr ⟨(T1.slot false).1, d + 1, ids3, m3, ?_, ?_, ?_, ?_, ?_, ?_, ?_⟩⟩, ?_, ?_, ?_, ?_, ?_⟩
        · rw [e5]; show T3.k.many + _ = _; rw [hk3]; exact hmore _ rfl
        · rw [e1]; rfl
        · rw [e2]; show T3.k.depth + 1 = _; rw [hk3, hdep]; omega
        · rw [e3]; simpa [TM.high] using s2
        · rw [e3, e4]; simpa [TM.high] using s3
        · rw [e3]; exact s5
        · rw [s6, s7]; simp [NodeM.size, freshM]
        · rw [s7]; simp [NodeM.size, freshM]
        · rw [e2]; show T3.k.depth + 1 ≤ _; rw [hk3]; omega
        · rw [e3]; show (T3.nodes.length : Int) ≤ _; omega
        · rw [hlenI]; split <;> omega
        · rw [e3, e4]
          show T3.nodes.length = _ ∨ T3.free = []
          have f1 := slot_free T1 false
          have f2 : T3.free.length ≤ (T1.slot false).2.free.length := s1.free
          exact room_trans (room_trans g11 q5 f1) (by rw [← hlen2]; exact s9) f2
        · rw [e3]
          have f3 := s1.grow
          rw [hlen2] at f3
          exact Nat.le_trans (Nat.le_trans g1.grow (slot_grow T1 false)) f3
end Go.Proofs.Ytcbklkcpjldcjaa

/- The tree as data: what it tells of a span. -/
namespace Go.Proofs.Ytcbklkcpjldcjaa
open Go.ChangeShapes Go.WideShapes Go.ChangeAt Go.RowKit
set_option maxRecDepth 100000
set_option linter.unusedSimpArgs false

instance : Inhabited Kid := ⟨⟨0, [], []⟩⟩
def inS (s : Spn) (L : PL) : PL := L.filter (fun p => spanIn s p.1)
theorem stop_at (p : Nat → Bool) : ∀ N, ∃ n, n ≤ N ∧ (∀ j, j < n → 0 < j → p j = false) ∧ (n = N ∨ (0 < n ∧ p n = true))
  | 0 => ⟨0, Nat.le_refl _, fun j h => by omega, .inl rfl⟩
  | N + 1 => by
    obtain ⟨n, h1, h2, h3⟩ := stop_at p N
    rcases h3 with rfl | h3
    · by_cases h0 : 0 < n ∧ p n = true
      · exact ⟨n, by omega, h2, .inr h0⟩
      · refine ⟨n + 1, Nat.le_refl _, fun j hj hj0 => ?_, .inl rfl⟩
        by_cases he : j = n
        · subst he
          cases hp : p j with
          | false => rfl
          | true => exact absurd ⟨hj0, hp⟩ h0
        · exact h2 j (by omega) hj0
    · exact ⟨n, by omega, h2, .inr h3⟩
theorem tells_take (cs : List Kid) (g : Kid → PL) : ∀ n, n ≤ cs.length → tells (fun j => g (cs.getD j default)) n = (cs.take n).flatMap g
  | 0, _ => by simp [tells]
  | n + 1, h => by
    rw [tells_succ, tells_take cs g n (by omega), List.take_succ_eq_append_getElem (by omega), List.flatMap_append]
    simp [List.getD_eq_getElem?_getD, List.getElem?_eq_getElem (show n < cs.length by omega)]

theorem walks_law {T : TM} {s : Spn} (hno : s.no = false) : ∀ (d i : Nat) (L : PL) (ids : List Nat), Rep T.nodes d i L ids → (∀ m, T.nodes[i]? = some m → m.size ≤ 4) → T.Walks s i (inS s L)
  | 0, i, L, ids, ⟨m, hm, h1, h2, h3, h4, h5⟩, hz => by
    have hkl : m.keys.length ≤ 4 := by have := hz m hm; unfold NodeM.size at this; rw [h1, if_pos rfl] at this; exact this
    have := TM.Walks.leaf (s := s) hm h1 h3 (by omega)
    have e : m.tell s m.keys.length = inS s L := by
      unfold NodeM.tell inS
      rw [h4, List.take_of_length_le (by rw [List.length_zip, h3]; omega)]
    rw [e] at this
    exact this
  | d + 1, i, L, ids, ⟨m, hm, h1, h2, cs, h3, h4, h5, h6, h7, h8, h9⟩, hz => by
    have hkids : m.kids.length ≤ 4 := by have := hz m hm; unfold NodeM.size at this; rw [h1] at this; simpa using this
    have hkc : m.kids.length = cs.length := by rw [h3, List.length_map]
    have hst := start_le m s
    obtain ⟨n, n1, n2, n3⟩ := stop_at (fun j => m.past s (m.start s + j - 1)) (cs.length - m.start s)
    have hlo : ∀ x ∈ (cs.take (m.start s)).flatMap Kid.L, spanIn s x.1 = false := by
      intro x hx
      by_cases h0 : m.start s = 0
      · rw [h0] at hx; simp at hx
      · unfold NodeM.start at h0 hx
        cases hl : s.hasLo
        · rw [hl] at h0; simp at h0
        · rw [hl, if_pos rfl] at h0 hx
          have hb := belowF_le m.keys s.lo
          obtain ⟨y, hy⟩ : ∃ y, m.keys[belowF m.keys s.lo - 1]? = some y := ⟨_, List.getElem?_eq_getElem (by omega)⟩
          have e1 := (h6 _ y hy).1 x (by rw [show belowF m.keys s.lo - 1 + 1 = belowF m.keys s.lo by omega]; exact hx)
          have e2 := (belowF_spec s.lo h7 _ y hy).1 (by omega)
          have e3 := lt_le e1 e2
          unfold spanIn spanLo
          rw [hl]
          simp [e3]
    have hhi : ∀ x ∈ (cs.drop (m.start s + n)).flatMap Kid.L, spanIn s x.1 = false := by
      intro x hx
      rcases n3 with n3 | ⟨n3, n4⟩
      · rw [List.drop_of_length_le (by omega)] at hx; simp at hx
      · unfold NodeM.past at n4
        simp only [Bool.and_eq_true, decide_eq_true_eq] at n4
        by_cases he : m.start s + n = cs.length
        · rw [List.drop_of_length_le (by omega)] at hx; simp at hx
        · obtain ⟨y, hy⟩ : ∃ y, m.keys[m.start s + n - 1]? = some y := ⟨_, List.getElem?_eq_getElem (by omega)⟩
          rw [List.getD_eq_getElem?_getD, hy] at n4
          have e1 := (h6 _ y hy).2 x (by rw [show m.start s + n - 1 + 1 = m.start s + n by omega]; exact hx)
          have e2 : valCmp s.hi x.1 < 0 := lt_le ((gt_iff _ _).1 n4.2) e1
          have e3 := (gt_iff x.1 s.hi).2 e2
          unfold spanIn spanHi
          rw [n4.1]
          have e4 : decide (valCmp x.1 s.hi < 0) = false := by simp; omega
          have e5 : decide (valCmp x.1 s.hi = 0) = false := by simp; omega
          rw [e4, e5]; simp
    have key := TM.Walks.inner (T := T) (s := s) hm h1 (by omega) (by omega) n (fun j => inS s ((cs.drop (m.start s)).getD j default).L) (by omega) n2 (n3.imp (fun h => by omega) (fun h => h)) (fun j kid hj hk => by
      rw [h3, List.getElem?_map] at hk
      obtain ⟨c, hc⟩ : ∃ c, cs[m.start s + j]? = some c := ⟨_, List.getElem?_eq_getElem (by omega)⟩
      rw [hc] at hk
      cases hk
      have hd : (cs.drop (m.start s)).getD j default = c := by rw [List.getD_eq_getElem?_getD, List.getElem?_drop, hc]; rfl
      rw [hd]
      obtain ⟨hr, m', hm', _, hf⟩ := h5 c (List.mem_of_getElem? hc)
      exact walks_law hno d c.id c.L c.ids hr (fun m'' hm'' => by rw [hm'] at hm''; cases hm''; exact hf))
    have e : tells (fun j => inS s ((cs.drop (m.start s)).getD j default).L) n = inS s L := by
      rw [tells_take (cs.drop (m.start s)) (fun c => inS s c.L) n (by rw [List.length_drop]; omega)]
      have e1 : L = (cs.take (m.start s)).flatMap Kid.L ++ (((cs.drop (m.start s)).take n).flatMap Kid.L ++ (cs.drop (m.start s + n)).flatMap Kid.L) := by
        rw [h8, ← List.drop_drop, ← List.flatMap_append, List.take_append_drop, ← List.flatMap_append, List.take_append_drop]
      rw [e1]
      unfold inS
      rw [List.filter_append, List.filter_append, filter_none hlo, filter_none hhi, List.filter_flatMap]
      simp
    rw [e] at key
    exact key

theorem Good.tells {T : TM} {L : PL} (h : Good T L) (s : Spn) : T.Tells s (inS s L) := by
  rcases h.rep with ⟨h1, h2, _⟩ | ⟨r, d, ids, m, h1, h2, h3, h4, h5, h6, h7⟩
  · exact .inl ⟨by rw [h2]; rfl, .inl h1⟩
  · cases hno : s.no
    · exact .inr ⟨r, h1, hno, walks_law hno d r L ids h3 (fun m' hm' => by rw [h5] at hm'; cases hm'; exact h7)⟩
    · refine .inl ⟨?_, .inr hno⟩
      unfold inS
      exact filter_none (fun x _ => by unfold spanIn; rw [hno]; simp)
theorem inS_len (s : Spn) (L : PL) : (inS s L).length ≤ L.length := List.length_filter_le _ _
end Go.Proofs.Ytcbklkcpjldcjaa

/- The tree: contracts of New, Len, Depth, Used, Room. -/
namespace Go.Proofs.Ytcbklkcpjldcjaa
open Go.ChangeShapes Go.WideShapes Go.ChangeAt Go.RowKit
set_option maxRecDepth 100000
set_option linter.unusedSimpArgs false

def TM.empty : TM := ⟨[], [], ⟨-1, 0, 0⟩⟩
theorem good_empty : Good TM.empty [] := ⟨by simp, by intro x hx; simp at hx, rfl, .inl ⟨by decide, rfl, rfl, by simp [TM.empty]⟩⟩
theorem small_empty : Small TM.empty [] 0 := ⟨by decide, by decide, by decide⟩

theorem New_ok {B w : World} {D : PH} {l : List HP} (h : Sat B D w l) :
    Calls Try.prog 29 #[] w fun e w' => ∃ t, e = .returned (.pointer (some ⟨t, 0, none⟩)) ∧ TreeA B D w' t TM.empty l := by
  have h1 := h.alloc (treeCells (.slice none 0 0) (.slice none 0 0) TM.empty.k) tT
  have h2 : Sat B D (w.alloc (.cells (treeCells (.slice none 0 0) (.slice none 0 0) TM.empty.k) tT)) (group [] :: blk w.heap.size (treeCells (.slice none 0 0) (.slice none 0 0) TM.empty.k) tT :: l) := Sat.togroup (L := []) h1
  have h3 := (h2.own_nil tI 1).own_nil tN 4
  have h4 : TreeA B D (w.alloc (.cells (treeCells (.slice none 0 0) (.slice none 0 0) TM.empty.k) tT)) w.heap.size TM.empty l :=
    ⟨.slice none 0 0, .slice none 0 0, [], rfl, (h3.perm (List.perm_middle (l₁ := [ownS tN 4 (.slice none 0 0) 0 [], ownS tI 1 (.slice none 0 0) 0 [], group []]) (l₂ := l)))⟩
  have H := Lib.hid h4
  clear h h1 h2 h3 h4
  go_enter Try.func29, Try.ntmps29
  go_wp2_with fail
  go_ret
  exact ⟨_, rfl, H.out⟩

theorem TreeA.end_ {B w : World} {D : PH} {t : Nat} {T : TM} {l : List HP} (h : TreeA B D w t T l) (hD : PH.le (heapOf B) D) : Kept (fun _ => False) B w := by
  obtain ⟨nv, fv, ns, hns, hs⟩ := h
  exact Sat.end_ hs hD
end Go.Proofs.Ytcbklkcpjldcjaa
