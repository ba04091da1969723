/- The tree: contract of through, at an inner node (printed by genthrough.py). -/
import Derived.Test.YtcbklkcpjldcjaaJ11
namespace Go.Proofs.Ytcbklkcpjldcjaa
open Go.ChangeShapes Go.WideShapes Go.ChangeAt Go.RowKit
set_option maxRecDepth 100000
set_option linter.unusedSimpArgs false

/-- where the span begins among the nodes below; is the key at a place beyond the span? -/
def NodeM.start (m : NodeM) (s : Spn) : Nat := if s.hasLo then belowF m.keys s.lo else 0
def NodeM.past (m : NodeM) (s : Spn) (c : Nat) : Bool := s.hasHi && decide (0 < valCmp (m.keys.getD c default) s.hi)
theorem belowF_le (keys : List Val) (k : Val) : belowF keys k ≤ keys.length := by
  unfold belowF
  cases h : bsIs keys k
  · have h2 : bsAt keys k ≤ keys.length := (bsF_le (keyAt keys k) 0 keys.length (Nat.zero_le _)).2
    simpa using h2
  · unfold bsIs at h
    simp only [Bool.and_eq_true, decide_eq_true_eq] at h
    have := h.1
    simp
    omega
theorem i64w' (x : Int) (h1 : -9223372036854775808 ≤ x) (h2 : x ≤ 9223372036854775807) : IntKind.i64.wrap x = x := IntWalk.i64_in _ (by omega)
theorem start_le (m : NodeM) (s : Spn) : m.start s ≤ m.keys.length := by
  unfold NodeM.start
  split
  · exact belowF_le _ _
  · omega
/-- what the first n of them tell -/
def tells (f : Nat → List (Val × VT)) (n : Nat) : List (Val × VT) := (List.range n).flatMap f
theorem tells_succ (f : Nat → List (Val × VT)) (n : Nat) : tells f (n + 1) = tells f n ++ f n := by unfold tells; rw [List.range_succ, List.flatMap_append]; simp
theorem tells_le (f : Nat → List (Val × VT)) {a b : Nat} (h : a ≤ b) : tells f a <+: tells f b := by
  induction b with
  | zero => obtain rfl : a = 0 := by omega
            exact List.prefix_refl _
  | succ b ih =>
    by_cases e : a = b + 1
    · subst e; exact List.prefix_refl _
    · rw [tells_succ]; exact (ih (by omega)).trans (List.prefix_append _ _)

set_option maxHeartbeats 8000000 in
theorem through_nolo {n₀ : Nat} {Ow : World → Nat → Prop} (hO : Owner n₀ Ow) {D : PH} {t l i : Nat} {V : List (Val × VT) → Prop} {T : TM} {m : NodeM} {s : Spn} {J Jx : List (Val × VT) → World → Prop}
    (hJ : ∀ pre W W', J pre W → Kept (fun _ => False) W W' → J pre W')
    (hi : T.nodes[i]? = some m) (hl : m.leaf = false) (hkb : m.keys.length ≤ 1000) (hdl : m.kids.length = m.keys.length + 1) (hlo : s.hasLo = false)
    (n : Nat) (f : Nat → List (Val × VT)) (hn : m.start s + n ≤ m.kids.length) (hgo : ∀ j, j < n → 0 < j → m.past s (m.start s + j - 1) = false) (hstop : m.start s + n = m.kids.length ∨ (0 < n ∧ m.past s (m.start s + n - 1) = true))
    (ih : ∀ j kid, j < n → m.kids[m.start s + j]? = some kid → ∀ (D : PH), TreeP D t T → ∀ (pre : List (Val × VT)) (W : World), J pre W → (∀ p, p <+: pre ++ f j → V p) → ItOk n₀ Ow D W →
      Calls Try.prog 66 #[.pointer (some ⟨t, 0, none⟩), .int .i64 kid, s.v, .func (.yield l) #[] #[]] W fun e W' =>
      (e = .returned (.bool true) ∧ J (pre ++ f j) W' ∧ ItOk n₀ Ow D W') ∨ (e = .returned (.bool false) ∧ ∃ q, q <+: f j ∧ Jx (pre ++ q) W'))
    (hT : TreeP D t T) (pre : List (Val × VT)) (W : World) (hj : J pre W) (hN : ∀ p, p <+: pre ++ tells f n → V p) (hit : ItOk n₀ Ow D W) :
    Calls Try.prog 66 #[.pointer (some ⟨t, 0, none⟩), .int .i64 i, s.v, .func (.yield l) #[] #[]] W fun e W' =>
      (e = .returned (.bool true) ∧ J (pre ++ tells f n) W' ∧ ItOk n₀ Ow D W') ∨ (e = .returned (.bool false) ∧ ∃ q, q <+: tells f n ∧ Jx (pre ++ q) W') := by
  have HT0 := Lib.hid hT
  obtain ⟨nv, fv, ns, hns, hTS⟩ := hT
  obtain ⟨⟨kv, vv, dv⟩, hp⟩ := get_node hns hi
  have hlt := (List.getElem?_eq_some_iff.1 hp).1
  obtain ⟨l0, hs0⟩ := hTS W hit.le
  obtain ⟨g, c, rfl, _, hcm⟩ := hs0.nv_some (by omega)
  unfold maxLen at hcm
  have hib : (i : Int) < (ns.length : Int) := by omega
  obtain ⟨ko, kc, hkv⟩ := (hs0.focus hp).own_shape
  obtain ⟨vo, vc, hvv⟩ := (hs0.focus hp).drop.own_shape
  obtain ⟨dg, dc, hdv, hdc1, hdc2⟩ := some_shape (Sat.own (hs0.focus hp) 2 rfl) (by show 0 < m.kids.length; omega)
  dsimp only at hkv hvv hdv hdc1
  subst hkv hvv hdv
  have hk1 : Kept (fun _ => False) W (W.alloc (.cells s.cells tS)) := (Kept.refl _ _).alloc _
  have hb1 : (W.alloc (.cells s.cells tS)).heap[W.heap.size]? = some (.cells s.cells tS (0, 0)) := heap_alloc_self W _
  have HI1 := Lib.hid (hit.new hO hk1 hb1 (Nat.le_refl _))
  have HLE1 := Lib.hid (hit.with_le (.cells s.cells tS (0, 0)) (Nat.le_refl _))
  have HK1 := Lib.hid hk1
  have HB1 := Lib.hid hb1
  have HTS := Lib.hid hTS
  have HP := Lib.hid hp
  have HO := Lib.hid hO
  have HNV := Lib.hid hN
  clear hN
  have HJ := Lib.hid hJ
  have HIH := Lib.hid ih
  have HJ1 := Lib.hid (hJ _ _ _ hj hk1)
  have HL := Lib.hid hl
  have HLO := Lib.hid hlo
  have HNS := Lib.hid hns
  have HGO := Lib.hid hgo
  have HSTOP := Lib.hid hstop
  have HIX := Lib.hid hi
  clear hk1 hb1 hTS hp hit hO hJ ih hj hl hs0 hns hi hlo hgo hstop
  dsimp only [Spn.v]
  go_enter Try.func66, Try.ntmps66
  go_upto_region 1 with (fail)
  obtain ⟨W1, hW1⟩ : ∃ W1, W1 = W.alloc (.cells s.cells tS) := ⟨_, rfl⟩
  dsimp only [Spn.cells] at hW1
  rw [← hW1]
  dsimp only [Spn.cells] at HI1 HLE1 HK1 HB1 HJ1
  rw [← hW1] at HK1 HB1 HI1 HJ1
  generalize hD1 : D.with W.heap.size (.cells #[.bool s.no, .bool s.hasLo, .bool s.openLo, .bool s.lo.t, .int .i64 s.lo.n, .string s.lo.s, .bool s.hasHi, .bool s.openHi, .bool s.hi.t, .int .i64 s.hi.n, .string s.hi.s] tS (0, 0)) = D1 at HI1 HLE1
  have HD1 := Lib.hid (show D1 W.heap.size = some (.cells #[.bool s.no, .bool s.hasLo, .bool s.openLo, .bool s.lo.t, .int .i64 s.lo.n, .string s.lo.s, .bool s.hasHi, .bool s.openHi, .bool s.hi.t, .int .i64 s.hi.n, .string s.hi.s] tS (0, 0)) by rw [← hD1]; exact PH.with_self _ _ _)
  generalize W.heap.size = bs at HB1 HD1 ⊢
  clear hW1 hD1
  obtain ⟨l1, hs1⟩ := HTS.out W1 (HLE1.out.trans HI1.out.le)
  obtain ⟨t0, t1, t2, t3, t4, tf⟩ := hs1.tcells
  obtain ⟨n0, n1, n2, n3, nf⟩ := hs1.node_cells HP.out
  dsimp only at n0 n1 n2 n3
  rw [HL.out] at n0
  have hb3 := ((Sat.start W1).alloc #[.bool false, .slice ko m.keys.length kc, .slice vo m.vals.length vc, .slice (some ⟨dg, 0, none⟩) m.kids.length dc] tN)
  have HB3 := Lib.hid hb3
  have HDL := Lib.hid hdl
  clear hs1 hb3 hdl
  go_upto_region 2 with (fail)
  obtain ⟨W2, hW2, hs2⟩ := HB3.out.hide
  rw [← hW2]
  have hk2 : Kept (fun _ => False) W1 W2 := hs2.drop.end_ (PH.le.refl _)
  have hb2 := hs2.blk 0 rfl
  have HI2 := Lib.hid (HI1.out.new HO.out hk2 hb2 (Nat.le_refl _))
  have HLE2 := Lib.hid (HLE1.out.trans (HI1.out.with_le (.cells #[.bool false, .slice ko m.keys.length kc, .slice vo m.vals.length vc, .slice (some ⟨dg, 0, none⟩) m.kids.length dc] tN (0, 0)) (Nat.le_refl _)))
  have HJ2 := Lib.hid (HJ.out _ _ _ HJ1.out hk2)
  generalize hD2 : D1.with W1.heap.size (.cells #[.bool false, .slice ko m.keys.length kc, .slice vo m.vals.length vc, .slice (some ⟨dg, 0, none⟩) m.kids.length dc] tN (0, 0)) = D2 at HI2 HLE2
  have HDS := Lib.hid (show D2 bs = some (.cells #[.bool s.no, .bool s.hasLo, .bool s.openLo, .bool s.lo.t, .int .i64 s.lo.n, .string s.lo.s, .bool s.hasHi, .bool s.openHi, .bool s.hi.t, .int .i64 s.hi.n, .string s.hi.s] tS (0, 0)) by
    rw [← hD2]
    exact HI1.out.with_le _ (Nat.le_refl _) _ _ HD1.out)
  have HDN := Lib.hid (show D2 W1.heap.size = some (.cells #[.bool false, .slice ko m.keys.length kc, .slice vo m.vals.length vc, .slice (some ⟨dg, 0, none⟩) m.kids.length dc] tN (0, 0)) by rw [← hD2]; exact PH.with_self _ _ _)
  clear hD2
  generalize W1.heap.size = bn at HDN ⊢
  clear hW2 hs2 hk2 hb2 HB3 HB1 HI1 HLE1 HJ1 HD1 HK1 t0 t1 t2 t3 t4 tf n0 n1 n2 n3 nf
  obtain ⟨N0, hN0⟩ : ∃ N0, m.keys.length = N0 := ⟨_, rfl⟩
  obtain ⟨M0, hM0⟩ : ∃ M0, m.kids.length = M0 := ⟨_, rfl⟩
  obtain ⟨A, hA⟩ : ∃ A, m.start s = A := ⟨_, rfl⟩
  have hAle := start_le m s
  have hMN : M0 = N0 + 1 := by rw [← hM0, ← hN0]; exact HDL.out
  have HN0 := Lib.hid hN0
  have HM0 := Lib.hid hM0
  have HA := Lib.hid hA
  have HMN := Lib.hid hMN
  obtain ⟨s0, s1, s2, s3, s4, s5, s6, s7, s8, s9, s10⟩ := Spn.at (s := s) (HI2.out.le _ _ HDS.out)
  obtain ⟨m0, m1, m2, m3, mf⟩ := cells4 (HI2.out.le _ _ HDN.out)
  rw [hN0] at HP HDN hkb m1 hAle
  rw [hM0] at HP HDN m3 hn hdc1 HSTOP
  rw [hA] at hn hAle HGO HSTOP HIH
  rw [HLO.out] at s1
  have hAM : A ≤ M0 := by omega
  have hAMi : (A : Int) ≤ (M0 : Int) := by omega
  have hMci : (M0 : Int) ≤ (dc : Int) := by omega
  have hne : ¬ (dc = A) := by omega
  clear hN0 hM0 hA hMN
  obtain rfl : A = 0 := by rw [← HA.out]; unfold NodeM.start; rw [HLO.out]; rfl
  have HI3 := HI2
  have HJ3 := HJ2
  go_upto_region 13 with (fail)
  clear s0 s1 s2 s3 s4 s5 s6 s7 s8 s9 s10 m0 m1 m2 m3 mf
  generalize W2 = w3 at HI3 HJ3 ⊢
  obtain ⟨m0, m1, m2, m3, mf⟩ := cells4 (HI3.out.le _ _ HDN.out)
  go_wp2_with fail
  clear m0 m1 m2 m3 mf
  go_loopw [60] (fun idx wr => ∃ j : Nat, idx = .int .i64 j ∧ j ≤ n ∧ J (pre ++ tells f j) wr ∧ ItOk n₀ Ow D2 wr) (fun idx _ => n + 1 - (intOf idx).toNat)
  case atStart => exact ⟨0, rfl, Nat.zero_le _, by simpa [tells] using HJ3.out, HI3.out⟩
  case round =>
    obtain ⟨j, rfl, hjn, hj, hit⟩ := hrel
    by_cases hjM : j < M0
    · obtain ⟨kid, hkid⟩ : ∃ kid, m.kids[j]? = some kid := ⟨m.kids[j]'(by rw [HM0.out]; exact hjM), List.getElem?_eq_getElem _⟩
      have HKID := Lib.hid hkid
      obtain ⟨lr, hsr⟩ := HTS.out wr (HLE2.out.trans hit.le)
      have hrd := hsr.kids_rd HP.out
      dsimp only at hrd
      have HTP := Lib.hid (HT0.out.mono HLE2.out)
      have hcell := ids_cell (by rw [HM0.out] at hrd; rw [HM0.out]; exact hrd) hkid
      have hjMi : (j : Int) < ((M0 - 0 : Nat) : Int) := by omega
      have hw1 : IntKind.i64.wrap ((j : Int)) = (j : Int) := i64w' _ (by omega) (by omega)
      have hw2 : IntKind.i64.wrap ((j : Int) - 1) = (j : Int) - 1 := i64w' _ (by omega) (by omega)
      obtain ⟨s0, s1, s2, s3, s4, s5, s6, s7, s8, s9, s10⟩ := Spn.at (s := s) (hit.le _ _ HDS.out)
      obtain ⟨m0, m1, m2, m3, mf⟩ := cells4 (hit.le _ _ HDN.out)
      have HJR := Lib.hid hj
      have HIR := Lib.hid hit
      clear hsr hrd hj hit hkid
      go_upto_region 17 with (fail)

      rcases Nat.eq_zero_or_pos j with hj0 | hj0
      · have hjz : ¬ ((j : Int) > 0) := by omega
        have hjz2 : ¬ (0 < j) := by omega
        have hjn2 : j < n := by rcases HSTOP.out with h | ⟨h1, _⟩ <;> omega
        have HJ6 := Lib.hid (HJ.out _ _ _ HJR.out ((Kept.refl _ wr).drew))
        have HI6 := Lib.hid (HIR.out.kept HO.out ((Kept.refl _ wr).drew))
        clear hj0
        refine wp_region_canon [(0, false, 14), (1, false, 14), (2, false, 14), (3, false, 14), (4, false, 14), (5, false, 14), (6, false, 14), (7, false, 14), (8, false, 14), (9, false, 14), (10, false, 14), (11, false, 14), (12, false, 14), (13, false, 14), (14, true, 0), (15, false, 999), (16, false, 999)] (by kernel_rfl) (by kernel_rfl) ?_
        iterate 3 (refine wpCan_read rfl rfl (fun K hK => ?_); go_simp; refine hK _ ?_; clear hK K)
        first | (refine wpCan_no rfl rfl ?_; simp only [Act.put, List.setIfInBounds_toArray, List.set_cons_succ, List.set_cons_zero, List.getElem_toArray, List.getElem_cons_succ, List.getElem_cons_zero]) | (refine wpCan_yes rfl rfl (fun K hK => ?_); go_simp; refine hK _ ?_; clear hK K)
        first | (refine wpCan_no rfl rfl ?_; simp only [Act.put, List.setIfInBounds_toArray, List.set_cons_succ, List.set_cons_zero, List.getElem_toArray, List.getElem_cons_succ, List.getElem_cons_zero]) | (refine wpCan_yes rfl rfl (fun K hK => ?_); go_simp; refine hK _ ?_; clear hK K)
        iterate 2 (refine wpCan_read rfl rfl (fun K hK => ?_); go_simp; refine hK _ ?_; clear hK K)
        first | (refine wpCan_no rfl rfl ?_; simp only [Act.put, List.setIfInBounds_toArray, List.set_cons_succ, List.set_cons_zero, List.getElem_toArray, List.getElem_cons_succ, List.getElem_cons_zero]) | (refine wpCan_yes rfl rfl (fun K hK => ?_); go_simp; refine hK _ ?_; clear hK K)
        first | (refine wpCan_no rfl rfl ?_; simp only [Act.put, List.setIfInBounds_toArray, List.set_cons_succ, List.set_cons_zero, List.getElem_toArray, List.getElem_cons_succ, List.getElem_cons_zero]) | (refine wpCan_yes rfl rfl (fun K hK => ?_); go_simp; refine hK _ ?_; clear hK K)
        first | (refine wpCan_no rfl rfl ?_; simp only [Act.put, List.setIfInBounds_toArray, List.set_cons_succ, List.set_cons_zero, List.getElem_toArray, List.getElem_cons_succ, List.getElem_cons_zero]) | (refine wpCan_yes rfl rfl (fun K hK => ?_); go_simp; refine hK _ ?_; clear hK K)
        first | (refine wpCan_no rfl rfl ?_; simp only [Act.put, List.setIfInBounds_toArray, List.set_cons_succ, List.set_cons_zero, List.getElem_toArray, List.getElem_cons_succ, List.getElem_cons_zero]) | (refine wpCan_yes rfl rfl (fun K hK => ?_); go_simp; refine hK _ ?_; clear hK K)
        first | (refine wpCan_no rfl rfl ?_; simp only [Act.put, List.setIfInBounds_toArray, List.set_cons_succ, List.set_cons_zero, List.getElem_toArray, List.getElem_cons_succ, List.getElem_cons_zero]) | (refine wpCan_yes rfl rfl (fun K hK => ?_); go_simp; refine hK _ ?_; clear hK K)
        first | (refine wpCan_no rfl rfl ?_; simp only [Act.put, List.setIfInBounds_toArray, List.set_cons_succ, List.set_cons_zero, List.getElem_toArray, List.getElem_cons_succ, List.getElem_cons_zero]) | (refine wpCan_yes rfl rfl (fun K hK => ?_); go_simp; refine hK _ ?_; clear hK K)
        first | (refine wpCan_no rfl rfl ?_; simp only [Act.put, List.setIfInBounds_toArray, List.set_cons_succ, List.set_cons_zero, List.getElem_toArray, List.getElem_cons_succ, List.getElem_cons_zero]) | (refine wpCan_yes rfl rfl (fun K hK => ?_); go_simp; refine hK _ ?_; clear hK K)
        refine wpCan_eff rfl ?_
        refine wpList_not rfl ?_
        simp only [Act.put, List.setIfInBounds_toArray, List.set_cons_succ, List.set_cons_zero]
        refine wpList_nil ?_
        refine And.intro ?_ ?_
        · go_simp
        first | (refine wpCan_no rfl rfl ?_; simp only [Act.put, List.setIfInBounds_toArray, List.set_cons_succ, List.set_cons_zero, List.getElem_toArray, List.getElem_cons_succ, List.getElem_cons_zero]) | (refine wpCan_yes rfl rfl (fun K hK => ?_); go_simp; refine hK _ ?_; clear hK K)
        iterate 1 (refine wpCan_read rfl rfl (fun K hK => ?_); go_simp; refine hK _ ?_; clear hK K)
        refine wpCan_nil ?_
        clear s0 s1 s2 s3 s4 s5 s6 s7 s8 s9 s10 m0 m1 m2 m3 mf hcell
        have hlen : ∀ p, p <+: pre ++ tells f j ++ f j → V p := fun p hp => HNV.out p (hp.trans (by rw [List.append_assoc, ← tells_succ]; exact (List.prefix_append_right_inj pre).2 (tells_le f (by omega))))
        have IHJ := Lib.hid (HIH.out j kid hjn2 (by first | exact HKID.out | (rw [Nat.zero_add]; exact HKID.out)) D2 HTP.out _ _ HJ6.out hlen HI6.out)
        clear hlen
        obtain ⟨s0, s1, s2, s3, s4, s5, s6, s7, s8, s9, s10⟩ := Spn.at (s := s) (HI6.out.le _ _ HDS.out)
        go_wp2_with ((go_at_call 66; refine IHJ.out.mono ?_; clear IHJ; rintro e7 w7 (⟨rfl, hJ7, hI7⟩ | ⟨rfl, q7, hq7, hx7⟩)))
        · first
          | exact ⟨⟨j + 1, by go_num, by omega, by rw [tells_succ, ← List.append_assoc]; exact hJ7, hI7⟩, by simp [intOf]; omega⟩
          | skip
            refine ⟨?_, ?measure⟩
            · iterate 37 apply Exists.intro
              exact ⟨⟨j + 1, by go_num, by omega, by rw [tells_succ, ← List.append_assoc]; exact hJ7, hI7⟩, rfl⟩
            case measure => simp [intOf]; omega
        · go_ret
          refine .inr ⟨rfl, tells f j ++ q7, ?_, by rw [← List.append_assoc]; exact hx7⟩
          have e1 := tells_le f (show j + 1 ≤ n by omega)
          rw [tells_succ] at e1
          exact ((List.prefix_append_right_inj _).2 hq7).trans e1
      · have hjp : (j : Int) > 0 := by omega
        rcases (show s.hasHi = false ∨ s.hasHi = true by cases s.hasHi <;> simp) with hh | hh
        · rw [hh] at s6
          have hjn2 : j < n := by
            rcases HSTOP.out with h | ⟨h1, h2⟩
            · omega
            · simp [NodeM.past, hh] at h2
          have HJ6 := Lib.hid (HJ.out _ _ _ HJR.out ((Kept.refl _ wr).drew))
          have HI6 := Lib.hid (HIR.out.kept HO.out ((Kept.refl _ wr).drew))
          have HH := Lib.hid hh
          clear hh
          refine wp_region_canon [(0, false, 14), (1, false, 14), (2, false, 14), (3, false, 14), (4, false, 14), (5, false, 14), (6, false, 14), (7, false, 14), (8, false, 14), (9, false, 14), (10, false, 14), (11, false, 14), (12, false, 14), (13, false, 14), (14, true, 0), (15, false, 999), (16, false, 999)] (by kernel_rfl) (by kernel_rfl) ?_
          iterate 3 (refine wpCan_read rfl rfl (fun K hK => ?_); go_simp; refine hK _ ?_; clear hK K)
          first | (refine wpCan_no rfl rfl ?_; simp only [Act.put, List.setIfInBounds_toArray, List.set_cons_succ, List.set_cons_zero, List.getElem_toArray, List.getElem_cons_succ, List.getElem_cons_zero]) | (refine wpCan_yes rfl rfl (fun K hK => ?_); go_simp; refine hK _ ?_; clear hK K)
          first | (refine wpCan_no rfl rfl ?_; simp only [Act.put, List.setIfInBounds_toArray, List.set_cons_succ, List.set_cons_zero, List.getElem_toArray, List.getElem_cons_succ, List.getElem_cons_zero]) | (refine wpCan_yes rfl rfl (fun K hK => ?_); go_simp; refine hK _ ?_; clear hK K)
          iterate 2 (refine wpCan_read rfl rfl (fun K hK => ?_); go_simp; refine hK _ ?_; clear hK K)
          first | (refine wpCan_no rfl rfl ?_; simp only [Act.put, List.setIfInBounds_toArray, List.set_cons_succ, List.set_cons_zero, List.getElem_toArray, List.getElem_cons_succ, List.getElem_cons_zero]) | (refine wpCan_yes rfl rfl (fun K hK => ?_); go_simp; refine hK _ ?_; clear hK K)
          first | (refine wpCan_no rfl rfl ?_; simp only [Act.put, List.setIfInBounds_toArray, List.set_cons_succ, List.set_cons_zero, List.getElem_toArray, List.getElem_cons_succ, List.getElem_cons_zero]) | (refine wpCan_yes rfl rfl (fun K hK => ?_); go_simp; refine hK _ ?_; clear hK K)
          first | (refine wpCan_no rfl rfl ?_; simp only [Act.put, List.setIfInBounds_toArray, List.set_cons_succ, List.set_cons_zero, List.getElem_toArray, List.getElem_cons_succ, List.getElem_cons_zero]) | (refine wpCan_yes rfl rfl (fun K hK => ?_); go_simp; refine hK _ ?_; clear hK K)
          first | (refine wpCan_no rfl rfl ?_; simp only [Act.put, List.setIfInBounds_toArray, List.set_cons_succ, List.set_cons_zero, List.getElem_toArray, List.getElem_cons_succ, List.getElem_cons_zero]) | (refine wpCan_yes rfl rfl (fun K hK => ?_); go_simp; refine hK _ ?_; clear hK K)
          first | (refine wpCan_no rfl rfl ?_; simp only [Act.put, List.setIfInBounds_toArray, List.set_cons_succ, List.set_cons_zero, List.getElem_toArray, List.getElem_cons_succ, List.getElem_cons_zero]) | (refine wpCan_yes rfl rfl (fun K hK => ?_); go_simp; refine hK _ ?_; clear hK K)
          first | (refine wpCan_no rfl rfl ?_; simp only [Act.put, List.setIfInBounds_toArray, List.set_cons_succ, List.set_cons_zero, List.getElem_toArray, List.getElem_cons_succ, List.getElem_cons_zero]) | (refine wpCan_yes rfl rfl (fun K hK => ?_); go_simp; refine hK _ ?_; clear hK K)
          first | (refine wpCan_no rfl rfl ?_; simp only [Act.put, List.setIfInBounds_toArray, List.set_cons_succ, List.set_cons_zero, List.getElem_toArray, List.getElem_cons_succ, List.getElem_cons_zero]) | (refine wpCan_yes rfl rfl (fun K hK => ?_); go_simp; refine hK _ ?_; clear hK K)
          refine wpCan_eff rfl ?_
          refine wpList_not rfl ?_
          simp only [Act.put, List.setIfInBounds_toArray, List.set_cons_succ, List.set_cons_zero]
          refine wpList_nil ?_
          refine And.intro ?_ ?_
          · go_simp
          first | (refine wpCan_no rfl rfl ?_; simp only [Act.put, List.setIfInBounds_toArray, List.set_cons_succ, List.set_cons_zero, List.getElem_toArray, List.getElem_cons_succ, List.getElem_cons_zero]) | (refine wpCan_yes rfl rfl (fun K hK => ?_); go_simp; refine hK _ ?_; clear hK K)
          iterate 1 (refine wpCan_read rfl rfl (fun K hK => ?_); go_simp; refine hK _ ?_; clear hK K)
          refine wpCan_nil ?_
          clear s0 s1 s2 s3 s4 s5 s6 s7 s8 s9 s10 m0 m1 m2 m3 mf hcell
          have hlen : ∀ p, p <+: pre ++ tells f j ++ f j → V p := fun p hp => HNV.out p (hp.trans (by rw [List.append_assoc, ← tells_succ]; exact (List.prefix_append_right_inj pre).2 (tells_le f (by omega))))
          have IHJ := Lib.hid (HIH.out j kid hjn2 (by first | exact HKID.out | (rw [Nat.zero_add]; exact HKID.out)) D2 HTP.out _ _ HJ6.out hlen HI6.out)
          clear hlen
          obtain ⟨s0, s1, s2, s3, s4, s5, s6, s7, s8, s9, s10⟩ := Spn.at (s := s) (HI6.out.le _ _ HDS.out)
          go_wp2_with ((go_at_call 66; refine IHJ.out.mono ?_; clear IHJ; rintro e7 w7 (⟨rfl, hJ7, hI7⟩ | ⟨rfl, q7, hq7, hx7⟩)))
          · first
            | exact ⟨⟨j + 1, by go_num, by omega, by rw [tells_succ, ← List.append_assoc]; exact hJ7, hI7⟩, by simp [intOf]; omega⟩
            | skip
              refine ⟨?_, ?measure⟩
              · iterate 37 apply Exists.intro
                exact ⟨⟨j + 1, by go_num, by omega, by rw [tells_succ, ← List.append_assoc]; exact hJ7, hI7⟩, rfl⟩
              case measure => simp [intOf]; omega
          · go_ret
            refine .inr ⟨rfl, tells f j ++ q7, ?_, by rw [← List.append_assoc]; exact hx7⟩
            have e1 := tells_le f (show j + 1 ≤ n by omega)
            rw [tells_succ] at e1
            exact ((List.prefix_append_right_inj _).2 hq7).trans e1
        · rw [hh] at s6
          obtain ⟨q, hq⟩ : ∃ q, j = q + 1 := ⟨j - 1, by omega⟩
          have hqi : (j : Int) - 1 = (q : Int) := by omega
          have hmn := HMN.out
          have hqN : q < N0 := by omega
          obtain ⟨x, hx⟩ : ∃ x, m.keys[q]? = some x := ⟨m.keys[q]'(by rw [HN0.out]; exact hqN), List.getElem?_eq_getElem _⟩
          have hpast : m.past s (0 + j - 1) = decide (0 < valCmp x s.hi) := by
            unfold NodeM.past
            rw [hh, show 0 + j - 1 = q by omega, List.getD_eq_getElem?_getD, hx]
            rfl
          have HPAST := Lib.hid hpast
          obtain ⟨lr2, hsr⟩ := HTS.out wr (HLE2.out.trans HIR.out.le)
          have hrk := hsr.keys_rd HP.out
          dsimp only at hrk
          rw [HN0.out] at hrk
          obtain ⟨kg, rfl⟩ : ∃ kg, ko = some ⟨kg, 0, none⟩ := by
            obtain ⟨g2, c2, h2, _⟩ := some_shape (Sat.own (hsr.focus HP.out) 0 rfl) (by show 0 < m.keys.length; rw [HN0.out]; omega)
            dsimp only at h2
            rw [Value.slice.injEq] at h2
            exact ⟨g2, h2.1⟩
          obtain ⟨y0, y1, y2⟩ := key_cells hrk hx
          simp only [Nat.zero_add] at y0 y1 y2
          have hqNi : (q : Int) < (N0 : Int) := by omega
          have HH := Lib.hid hh
          have HQ := Lib.hid hq
          rw [hqi]
          clear hh hsr hrk hpast hqi hmn hw2 hw1 hx hq
          refine wp_region_canon [(0, false, 14), (1, false, 14), (2, false, 14), (3, false, 14), (4, false, 14), (5, false, 14), (6, false, 14), (7, false, 14), (8, false, 14), (9, false, 14), (10, false, 14), (11, false, 14), (12, false, 14), (13, false, 14), (14, true, 0), (15, false, 999), (16, false, 999)] (by kernel_rfl) (by kernel_rfl) ?_
          iterate 3 (refine wpCan_read rfl rfl (fun K hK => ?_); go_simp; refine hK _ ?_; clear hK K)
          first | (refine wpCan_no rfl rfl ?_; simp only [Act.put, List.setIfInBounds_toArray, List.set_cons_succ, List.set_cons_zero, List.getElem_toArray, List.getElem_cons_succ, List.getElem_cons_zero]) | (refine wpCan_yes rfl rfl (fun K hK => ?_); go_simp; refine hK _ ?_; clear hK K)
          first | (refine wpCan_no rfl rfl ?_; simp only [Act.put, List.setIfInBounds_toArray, List.set_cons_succ, List.set_cons_zero, List.getElem_toArray, List.getElem_cons_succ, List.getElem_cons_zero]) | (refine wpCan_yes rfl rfl (fun K hK => ?_); go_simp; refine hK _ ?_; clear hK K)
          iterate 2 (refine wpCan_read rfl rfl (fun K hK => ?_); go_simp; refine hK _ ?_; clear hK K)
          first | (refine wpCan_no rfl rfl ?_; simp only [Act.put, List.setIfInBounds_toArray, List.set_cons_succ, List.set_cons_zero, List.getElem_toArray, List.getElem_cons_succ, List.getElem_cons_zero]) | (refine wpCan_yes rfl rfl (fun K hK => ?_); go_simp; refine hK _ ?_; clear hK K)
          first | (refine wpCan_no rfl rfl ?_; simp only [Act.put, List.setIfInBounds_toArray, List.set_cons_succ, List.set_cons_zero, List.getElem_toArray, List.getElem_cons_succ, List.getElem_cons_zero]) | (refine wpCan_yes rfl rfl (fun K hK => ?_); go_simp; refine hK _ ?_; clear hK K)
          first | (refine wpCan_no rfl rfl ?_; simp only [Act.put, List.setIfInBounds_toArray, List.set_cons_succ, List.set_cons_zero, List.getElem_toArray, List.getElem_cons_succ, List.getElem_cons_zero]) | (refine wpCan_yes rfl rfl (fun K hK => ?_); go_simp; refine hK _ ?_; clear hK K)
          first | (refine wpCan_no rfl rfl ?_; simp only [Act.put, List.setIfInBounds_toArray, List.set_cons_succ, List.set_cons_zero, List.getElem_toArray, List.getElem_cons_succ, List.getElem_cons_zero]) | (refine wpCan_yes rfl rfl (fun K hK => ?_); go_simp; refine hK _ ?_; clear hK K)
          first | (refine wpCan_no rfl rfl ?_; simp only [Act.put, List.setIfInBounds_toArray, List.set_cons_succ, List.set_cons_zero, List.getElem_toArray, List.getElem_cons_succ, List.getElem_cons_zero]) | (refine wpCan_yes rfl rfl (fun K hK => ?_); go_simp; refine hK _ ?_; clear hK K)
          first | (refine wpCan_no rfl rfl ?_; simp only [Act.put, List.setIfInBounds_toArray, List.set_cons_succ, List.set_cons_zero, List.getElem_toArray, List.getElem_cons_succ, List.getElem_cons_zero]) | (refine wpCan_yes rfl rfl (fun K hK => ?_); go_simp; refine hK _ ?_; clear hK K)
          first | (refine wpCan_no rfl rfl ?_; simp only [Act.put, List.setIfInBounds_toArray, List.set_cons_succ, List.set_cons_zero, List.getElem_toArray, List.getElem_cons_succ, List.getElem_cons_zero]) | (refine wpCan_yes rfl rfl (fun K hK => ?_); go_simp; refine hK _ ?_; clear hK K)
          refine wpCan_eff rfl ?_
          refine wpList_do rfl (fun K hK => ?_)
          go_simp
          refine (compare_ok x s.hi _).mono ?_
          rintro e6 w6 ⟨rfl, hk6⟩
          have hk6' : Kept (fun _ => False) wr w6 := ((Kept.refl _ _).drew).trans hk6 (fun _ h => h.elim)
          have HJ6 := Lib.hid (HJ.out _ _ _ HJR.out hk6')
          have HI6 := Lib.hid (HIR.out.kept HO.out hk6')
          clear hk6 hk6' s0 s1 s2 s3 s4 s5 s6 s7 s8 s9 s10 m0 m1 m2 m3 mf hcell y0 y1 y2
          generalize valCmp x s.hi = cc at HPAST ⊢
          refine hK _ _ ?_
          clear hK K
          refine wpList_nil ?_
          refine And.intro ?_ ?_
          · go_simp
          first | (refine wpCan_no rfl rfl ?_; simp only [Act.put, List.setIfInBounds_toArray, List.set_cons_succ, List.set_cons_zero, List.getElem_toArray, List.getElem_cons_succ, List.getElem_cons_zero]) | (refine wpCan_yes rfl rfl (fun K hK => ?_); go_simp; refine hK _ ?_; clear hK K)
          iterate 1 (refine wpCan_read rfl rfl (fun K hK => ?_); go_simp; refine hK _ ?_; clear hK K)
          refine wpCan_nil ?_
          by_cases hcc : cc > 0
          · have hjn2 : j = n := by
              rcases Nat.lt_or_ge j n with h | h
              · have h1 := HGO.out j h (by omega)
                rw [HPAST.out] at h1
                simp at h1
                omega
              · omega
            subst hjn2
            go_wp2_with fail
            go_ret
            exact .inl ⟨rfl, HJ6.out, HI6.out.less HLE2.out⟩
          · have hjn2 : j < n := by
              rcases Nat.lt_or_ge j n with h | h
              · exact h
              · obtain rfl : j = n := by omega
                rcases HSTOP.out with h1 | ⟨_, h2⟩
                · omega
                · rw [HPAST.out] at h2
                  simp at h2
                  omega
            have hlen : ∀ p, p <+: pre ++ tells f j ++ f j → V p := fun p hp => HNV.out p (hp.trans (by rw [List.append_assoc, ← tells_succ]; exact (List.prefix_append_right_inj pre).2 (tells_le f (by omega))))
            have IHJ := Lib.hid (HIH.out j kid hjn2 (by first | exact HKID.out | (rw [Nat.zero_add]; exact HKID.out)) D2 HTP.out _ _ HJ6.out hlen HI6.out)
            clear hlen
            obtain ⟨s0, s1, s2, s3, s4, s5, s6, s7, s8, s9, s10⟩ := Spn.at (s := s) (HI6.out.le _ _ HDS.out)
            go_wp2_with ((go_at_call 66; refine IHJ.out.mono ?_; clear IHJ; rintro e7 w7 (⟨rfl, hJ7, hI7⟩ | ⟨rfl, q7, hq7, hx7⟩)))
            · first
              | exact ⟨⟨j + 1, by go_num, by omega, by rw [tells_succ, ← List.append_assoc]; exact hJ7, hI7⟩, by simp [intOf]; omega⟩
              | skip
                refine ⟨?_, ?measure⟩
                · iterate 37 apply Exists.intro
                  exact ⟨⟨j + 1, by go_num, by omega, by rw [tells_succ, ← List.append_assoc]; exact hJ7, hI7⟩, rfl⟩
                case measure => simp [intOf]; omega
            · go_ret
              refine .inr ⟨rfl, tells f j ++ q7, ?_, by rw [← List.append_assoc]; exact hx7⟩
              have e1 := tells_le f (show j + 1 ≤ n by omega)
              rw [tells_succ] at e1
              exact ((List.prefix_append_right_inj _).2 hq7).trans e1
    · have hjn2 : j = n := by omega
      subst hjn2
      have HJ9 := Lib.hid hj
      have HI9 := Lib.hid hit
      have hjMi : ¬ (j : Int) < ((M0 - 0 : Nat) : Int) := by omega
      clear hj hit
      go_wp2_with fail
      go_ret
      exact .inl ⟨rfl, HJ9.out, HI9.out.less HLE2.out⟩
end Go.Proofs.Ytcbklkcpjldcjaa
