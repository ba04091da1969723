/- Joined texts: The document's answer: Compare (ratlineref01). The document's answer: Within (ratlineref04). The document's answer: Get, Delete over rows of pairs (ratlineref05). The document's answer: Delete over rows of pairs (ratlineref05). The document's answer: Range over rows of pairs (ratlineref05). The document's answer: Put over rows of pairs (ratlineref05). -/
import Derived.Test.YtjijemeabfiipaaJ12
import Derived.Test.YtjijemeabfiipaaJ22
/- The document's answer: Compare (ratlineref01). -/
namespace Go.Proofs.Ytjijemeabfiipaa
open Go.ChangeShapes Go.WideShapes Go.ChangeAt Go.RowKit
set_option maxRecDepth 100000
set_option linter.unusedSimpArgs false

theorem bl_pre : ∀ (k : Nat) (xs ys : List UInt8), xs.take k = ys.take k → k ≤ xs.length → k ≤ ys.length → Op.bytesLess xs ys = Op.bytesLess (xs.drop k) (ys.drop k)
  | 0, _, _, _, _, _ => rfl
  | k + 1, [], _, _, h, _ => by simp at h
  | k + 1, _ :: _, [], _, _, h => by simp at h
  | k + 1, x :: xs, y :: ys, h, h1, h2 => by
    simp only [List.take_succ_cons, List.cons.injEq] at h
    obtain ⟨rfl, h⟩ := h
    have := bl_pre k xs ys h (by simpa using h1) (by simpa using h2)
    simp only [List.drop_succ_cons]
    rw [← this]
    simp [Op.bytesLess]
theorem bl_irrefl : ∀ (xs : List UInt8), Op.bytesLess xs xs = false
  | [] => rfl
  | x :: xs => by simp [Op.bytesLess, bl_irrefl xs]
theorem cmp_at_lt {xs ys : List UInt8} {k : Nat} {x y : UInt8} (h : xs.take k = ys.take k) (hx : xs[k]? = some x) (hy : ys[k]? = some y) (hlt : x < y) : Op.bytesLess xs ys = true := by
  have h1 := (List.getElem?_eq_some_iff.1 hx).1
  have h2 := (List.getElem?_eq_some_iff.1 hy).1
  rw [bl_pre k xs ys h (by omega) (by omega), List.drop_eq_getElem_cons h1, List.drop_eq_getElem_cons h2]
  rw [List.getElem?_eq_getElem h1] at hx
  rw [List.getElem?_eq_getElem h2] at hy
  rw [Option.some.inj hx, Option.some.inj hy]
  simp [Op.bytesLess, hlt]
theorem cmpS_val (a b : ByteArray) : cmpS a b = if Op.bytesLess a.data.toList b.data.toList then -1 else if a.data.toList = b.data.toList then 0 else 1 := by
  unfold cmpS
  rw [ByteArray.toList_eq, ByteArray.toList_eq]
  by_cases h : a.data.toList = b.data.toList
  · rw [h]; simp
  · rw [beq_eq_false_iff_ne.2 h, if_neg h]; rfl
theorem cmpS_lt {a b : ByteArray} {k : Nat} {x y : UInt8} (h : a.data.toList.take k = b.data.toList.take k) (hx : a.data.toList[k]? = some x) (hy : b.data.toList[k]? = some y) (hlt : x < y) : cmpS a b = -1 := by
  rw [cmpS_val, cmp_at_lt h hx hy hlt, if_pos rfl]
theorem cmpS_gt {a b : ByteArray} {k : Nat} {x y : UInt8} (h : a.data.toList.take k = b.data.toList.take k) (hx : a.data.toList[k]? = some x) (hy : b.data.toList[k]? = some y) (hlt : y < x) : cmpS a b = 1 := by
  rw [cmpS_swap b a, cmpS_lt h.symm hy hx hlt]; rfl
theorem cmpS_short {a b : ByteArray} (h : a.data.toList.take a.size = b.data.toList.take a.size) (hl : a.size < b.size) : cmpS a b = -1 := by
  have e1 : a.data.toList.length = a.size := by cases a; rfl
  have e2 : b.data.toList.length = b.size := by cases b; rfl
  rw [cmpS_val, bl_pre a.size _ _ h (by omega) (by omega), List.drop_of_length_le (by omega), List.drop_eq_getElem_cons (by omega)]
  rfl
theorem cmpS_long {a b : ByteArray} (h : a.data.toList.take b.size = b.data.toList.take b.size) (hl : b.size < a.size) : cmpS a b = 1 := by
  rw [cmpS_swap b a, cmpS_short h.symm hl]; rfl
theorem cmpS_same {a b : ByteArray} (h : a.data.toList.take a.size = b.data.toList.take a.size) (hl : a.size = b.size) : cmpS a b = 0 := by
  have e1 : a.data.toList.length = a.size := by cases a; rfl
  have e2 : b.data.toList.length = b.size := by cases b; rfl
  rw [List.take_of_length_le (by omega), List.take_of_length_le (by omega)] at h
  rw [cmpS_val, h, bl_irrefl]; simp

/-- a value that fits -/
def Val.fits (v : Val) : Prop := v.s.size ≤ maxLen

set_option maxHeartbeats 4000000 in
theorem rcmp_ok (a b : Val) (ha : a.fits) (hb : b.fits) (w : World) : Calls Try.prog 19 #[a.v, b.v] w fun e w' => e = .returned (.int .i64 (valCmp a b)) ∧ Kept (fun _ => False) w w' := by
  obtain ⟨at_, an, sa⟩ := a
  obtain ⟨bt, bn, sb⟩ := b
  unfold Val.fits maxLen at ha hb
  dsimp only at ha hb
  obtain ⟨w1, hw1⟩ : ∃ w1, w1 = w.alloc (.cells #[.bool at_, .int .i64 an, .string sa] 24) := ⟨_, rfl⟩
  obtain ⟨w2, hw2⟩ : ∃ w2, w2 = w1.alloc (.cells #[.bool bt, .int .i64 bn, .string sb] 24) := ⟨_, rfl⟩
  have hk1 : Kept (fun _ => False) w w1 := by rw [hw1]; exact (Kept.refl _ _).alloc _
  have hk2 : Kept (fun _ => False) w1 w2 := by rw [hw2]; exact (Kept.refl _ _).alloc _
  have hb1 : w1.heap[w.heap.size]? = some (.cells #[.bool at_, .int .i64 an, .string sa] 24 (0, 0)) := by rw [hw1]; exact heap_alloc_self w _
  have hb2 : w2.heap[w1.heap.size]? = some (.cells #[.bool bt, .int .i64 bn, .string sb] 24 (0, 0)) := by rw [hw2]; exact heap_alloc_self w1 _
  have hsz : w1.heap.size = w.heap.size + 1 := by rw [hw1]; simp
  have HK := Lib.hid (hk1.trans hk2 (fun _ h => h.elim))
  have HA := Lib.hid ((hk2.block _ (lt_of_heap hb1) (fun h => h)).trans hb1)
  have HB := Lib.hid hb2
  have HW := Lib.hid (And.intro hw1 (And.intro hw2 hsz))
  clear hk1 hk2 hb1 hb2 hsz hw1 hw2
  dsimp only [Val.v]
  go_enter Try.func19, Try.ntmps19
  go_upto_region 1 with (fail)
  rw [← HW.out.1, ← HW.out.2.1]
  rw [HW.out.2.2] at HB
  clear HW
  revert HA HB
  generalize w.heap.size = ba
  intro HA HB
  obtain ⟨x0, x1, x2, xf⟩ := cells3 HA.out
  obtain ⟨y0, y1, y2, yf⟩ := cells3 HB.out
  rcases (show at_ = false ∨ at_ = true by cases at_ <;> simp) with rfl | rfl <;> rcases (show bt = false ∨ bt = true by cases bt <;> simp) with rfl | rfl
  · by_cases h1 : an < bn
    · go_wp2_with fail
      go_ret
      exact ⟨by simp [valCmp, cmpI, h1], HK.out⟩
    · by_cases h2 : bn < an
      · go_wp2_with fail
        go_ret
        exact ⟨by simp [valCmp, cmpI, h1, h2], HK.out⟩
      · have HV := Lib.hid (show valCmp ⟨false, an, sa⟩ ⟨false, bn, sb⟩ = 0 by simp [valCmp, cmpI, h1, h2])
        go_wp2_with fail
        go_ret
        exact ⟨by rw [HV.out]; rfl, HK.out⟩
  · go_wp2_with fail
    go_ret
    exact ⟨by simp [valCmp], HK.out⟩
  · go_wp2_with fail
    go_ret
    exact ⟨by simp [valCmp], HK.out⟩
  · have e1 : sa.data.toList.length = sa.size := by cases sa; rfl
    have e2 : sb.data.toList.length = sb.size := by cases sb; rfl
    have HE1 := Lib.hid e1
    have HE2 := Lib.hid e2
    have HC := Lib.hid (show valCmp ⟨true, an, sa⟩ ⟨true, bn, sb⟩ = cmpS sa sb by simp [valCmp])
    clear e1 e2
    generalize hna : sa.size = na at ha
    generalize hnb : sb.size = nb at hb
    go_wp2_with fail
    go_loopw [5] (fun i wr => ∃ j : Nat, i = .int .i64 j ∧ j ≤ na ∧ j ≤ nb ∧ sa.data.toList.take j = sb.data.toList.take j ∧ ∃ n, wr = w2.drewN n) (fun i _ => na - (intOf i).toNat)
    case atStart => exact ⟨0, rfl, by omega, by omega, rfl, 0, rfl⟩
    case round =>
      obtain ⟨j, rfl, hj1, hj2, hte, n0, rfl⟩ := hrel
      have HT := Lib.hid hte
      clear hte
      by_cases hlt : j < na ∧ j < nb
      · obtain ⟨g1, g2⟩ := hlt
        have i1 : (j : Int) < (na : Int) := by omega
        have i2 : (j : Int) < (nb : Int) := by omega
        have s1 : j < sa.size := by omega
        have s2 : j < sb.size := by omega
        obtain ⟨x, hx⟩ : ∃ x, sa.data.toList[j]? = some x := ⟨_, List.getElem?_eq_getElem (by have := HE1.out; omega)⟩
        obtain ⟨y, hy⟩ : ∃ y, sb.data.toList[j]? = some y := ⟨_, List.getElem?_eq_getElem (by have := HE2.out; omega)⟩
        have hx2 : sa[j] = x := by
          have : sa.data.toList[j]? = some sa[j] := by
            cases sa; rw [Array.getElem?_toList]; exact Array.getElem?_eq_getElem s1
          rw [hx] at this; exact (Option.some.inj this).symm
        have hy2 : sb[j] = y := by
          have : sb.data.toList[j]? = some sb[j] := by
            cases sb; rw [Array.getElem?_toList]; exact Array.getElem?_eq_getElem s2
          rw [hy] at this; exact (Option.some.inj this).symm
        have HX := Lib.hid hx
        have HY := Lib.hid hy
        clear hx hy
        rcases (show x < y ∨ y < x ∨ x = y by
          rcases Nat.lt_trichotomy x.toNat y.toNat with h | h | h
          · exact .inl h
          · exact .inr (.inr (UInt8.toNat_inj.1 h))
          · exact .inr (.inl h)) with hxy | hxy | rfl
        · have HR := Lib.hid (cmpS_lt HT.out HX.out HY.out hxy)
          have q1 : (x.toNat : Int) < (y.toNat : Int) := by have : x.toNat < y.toNat := hxy; omega
          go_wp2_with fail
          go_quiet (fail)
          go_wp2_with fail
          go_ret
          exact ⟨by rw [HC.out, HR.out]; rfl, (HK.out.drewN _).drewN _⟩
        · have HR := Lib.hid (cmpS_gt HT.out HX.out HY.out hxy)
          have q1 : (y.toNat : Int) < (x.toNat : Int) := by have : y.toNat < x.toNat := hxy; omega
          have q2 : ¬ (x.toNat : Int) < (y.toNat : Int) := by omega
          go_wp2_with fail
          go_quiet (fail)
          go_wp2_with fail
          go_quiet (fail)
          go_wp2_with fail
          go_ret
          exact ⟨by rw [HC.out, HR.out]; rfl, ((HK.out.drewN _).drewN _).drewN _⟩
        · have q1 : ¬ (x.toNat : Int) < (x.toNat : Int) := by omega
          go_wp2_with fail
          go_quiet (fail)
          go_wp2_with fail
          go_quiet (fail)
          go_wp2_with fail
          go_roundw
          case rel => exact ⟨j + 1, by go_num, by omega, by omega, take_succ_eq HT.out HX.out HY.out, _, rfl⟩
          case measure => simp [intOf]; omega
      · have HS := Lib.hid (show cmpS sa sb = if na < nb then -1 else if nb < na then 1 else 0 by
          have ht := HT.out
          by_cases h1 : na < nb
          · rw [if_pos h1]
            exact cmpS_short (by rw [hna, show na = j by omega]; exact ht) (by omega)
          · rw [if_neg h1]
            by_cases h2 : nb < na
            · rw [if_pos h2]
              exact cmpS_long (by rw [hnb, show nb = j by omega]; exact ht) (by omega)
            · rw [if_neg h2]
              exact cmpS_same (by rw [hna, show na = j by omega]; exact ht) (by omega))
        by_cases h1 : na < nb
        · have q1 : (na : Int) < (nb : Int) := by omega
          have hcut : ¬ (j : Int) < (na : Int) := by omega
          go_wp2_with fail
          go_ret
          exact ⟨by rw [HC.out, HS.out, if_pos h1]; rfl, HK.out.drewN _⟩
        · by_cases h2 : nb < na
          · have q1 : ¬ (na : Int) < (nb : Int) := by omega
            have q2 : (nb : Int) < (na : Int) := by omega
            have hc1 : (j : Int) < (na : Int) := by omega
            have hcut : ¬ (j : Int) < (nb : Int) := by omega
            go_wp2_with fail
            go_ret
            exact ⟨by rw [HC.out, HS.out, if_neg h1, if_pos h2]; rfl, HK.out.drewN _⟩
          · have q1 : ¬ (na : Int) < (nb : Int) := by omega
            have q2 : ¬ (nb : Int) < (na : Int) := by omega
            have hcut : ¬ (j : Int) < (na : Int) := by omega
            go_wp2_with fail
            go_ret
            exact ⟨by rw [HC.out, HS.out, if_neg h1, if_neg h2]; rfl, HK.out.drewN _⟩
end Go.Proofs.Ytjijemeabfiipaa

/- The document's answer: Within (ratlineref04). -/
namespace Go.Proofs.Ytjijemeabfiipaa
open Go.ChangeShapes Go.WideShapes Go.ChangeAt Go.RowKit
set_option maxRecDepth 100000
set_option linter.unusedSimpArgs false

def Spn.fits (s : Spn) : Prop := s.lo.fits ∧ s.hi.fits
set_option maxHeartbeats 8000000 in
theorem rwithin_ok (s : Spn) (x : Val) (hsf : s.fits) (hxf : x.fits) (w : World) : Calls Try.prog 36 #[s.v, x.v] w fun e w' => e = .returned (.bool (spanIn s x)) ∧ Kept (fun _ => False) w w' := by
  have hk0 : Kept (fun _ => False) w ((w.alloc (.cells s.cells tS)).alloc (.cells #[.bool x.t, .int .i64 x.n, .string x.s] 24)) := ((Kept.refl _ _).alloc _).alloc _
  have hb1 : ((w.alloc (.cells s.cells tS)).alloc (.cells #[.bool x.t, .int .i64 x.n, .string x.s] 24)).heap[w.heap.size]? = some (.cells s.cells tS (0, 0)) := (((Kept.refl (fun _ => False) (w.alloc (.cells s.cells tS))).alloc _).block _ (by simp) (fun h => h)).trans (heap_alloc_self w _)
  have hb2 : ((w.alloc (.cells s.cells tS)).alloc (.cells #[.bool x.t, .int .i64 x.n, .string x.s] 24)).heap[w.heap.size + 1]? = some (.cells #[.bool x.t, .int .i64 x.n, .string x.s] 24 (0, 0)) := by
    have := heap_alloc_self (w.alloc (.cells s.cells tS)) (.cells #[.bool x.t, .int .i64 x.n, .string x.s] 24)
    rw [World.size_alloc] at this
    exact this
  have HK0 := Lib.hid hk0
  have HB1 := Lib.hid hb1
  have HB2 := Lib.hid hb2
  have HSF := Lib.hid hsf
  have HXF := Lib.hid hxf
  clear hk0 hb1 hb2 hsf hxf
  dsimp only [Spn.v, Val.v]
  go_enter Try.func36, Try.ntmps36
  go_upto_region 1 with (fail)
  obtain ⟨W, hW⟩ : ∃ W, W = (w.alloc (.cells s.cells tS)).alloc (.cells #[.bool x.t, .int .i64 x.n, .string x.s] 24) := ⟨_, rfl⟩
  dsimp only [Spn.cells] at hW
  rw [← hW]
  dsimp only [Spn.cells] at HK0 HB1 HB2
  rw [← hW] at HK0 HB1 HB2
  generalize w.heap.size + 1 = bx at HB2 ⊢
  generalize w.heap.size = bs at HB1 ⊢
  clear hW
  obtain ⟨s0, s1, s2, s3, s4, s5, s6, s7, s8, s9, s10⟩ := Spn.at (s := s) HB1.out
  obtain ⟨x0, x1, x2, xf⟩ := cells3 HB2.out
  cases hn : s.no
  · rw [hn] at s0
    have HN := Lib.hid hn
    clear hn
    go_upto_region 4 with ((go_at_call 19; refine (rcmp_ok x s.lo HXF.out HSF.out.1 _).mono ?_; rintro e1 w1 ⟨rfl, hk1⟩; have HK1 := Lib.hid (HK0.out.trans hk1 (fun _ h => h.elim)); have HB11 := Lib.hid ((hk1.block bs (lt_of_heap HB1.out) (fun h => h)).trans HB1.out); have HB21 := Lib.hid ((hk1.block bx (lt_of_heap HB2.out) (fun h => h)).trans HB2.out); clear hk1 s0 s1 s2 s3 s4 s5 s6 s7 s8 s9 s10 x0 x1 x2 xf))
    obtain ⟨s0, s1, s2, s3, s4, s5, s6, s7, s8, s9, s10⟩ := Spn.at (s := s) HB11.out
    obtain ⟨x0, x1, x2, xf⟩ := cells3 HB21.out
    go_upto_region 5 with ((go_at_call 19; refine (rcmp_ok x s.hi HXF.out HSF.out.2 _).mono ?_; rintro e2 w2 ⟨rfl, hk2⟩; have HK2 := Lib.hid (HK1.out.trans hk2 (fun _ h => h.elim)); have HB12 := Lib.hid ((hk2.block bs (lt_of_heap HB11.out) (fun h => h)).trans HB11.out); clear hk2 s0 s1 s2 s3 s4 s5 s6 s7 s8 s9 s10 x0 x1 x2 xf))
    obtain ⟨s0, s1, s2, s3, s4, s5, s6, s7, s8, s9, s10⟩ := Spn.at (s := s) HB12.out
    have hc3 := cmp_three x s.lo
    have hd3 := cmp_three x s.hi
    have HLO := Lib.hid (spanLo_eq s x)
    have HHI := Lib.hid (spanHi_eq s x)
    generalize valCmp x s.lo = c at HLO hc3 ⊢
    generalize valCmp x s.hi = d at HHI hd3 ⊢
    cases hl : s.hasLo
    · rw [hl] at s1
      have HLF : spanLo s x = false := by rw [HLO.out]; simp [*]
      have HLF := Lib.hid HLF
      cases hh : s.hasHi
      · rw [hh] at s6
        go_wp2_with (fail)
        go_ret
        exact ⟨by unfold spanIn; rw [HN.out, HLF.out, HHI.out]; simp [*], HK2.out⟩
      · rw [hh] at s6
        rcases hd3 with rfl | rfl | rfl
        · skip
          go_wp2_with (fail)
          go_ret
          exact ⟨by unfold spanIn; rw [HN.out, HLF.out, HHI.out]; simp [*], HK2.out⟩
        · cases ho : s.openHi
          · rw [ho] at s7
            go_wp2_with (fail)
            go_ret
            exact ⟨by unfold spanIn; rw [HN.out, HLF.out, HHI.out]; simp [*], HK2.out⟩
          · rw [ho] at s7
            go_wp2_with (fail)
            go_ret
            exact ⟨by unfold spanIn; rw [HN.out, HLF.out, HHI.out]; simp [*], HK2.out⟩
        · skip
          go_wp2_with (fail)
          go_ret
          exact ⟨by unfold spanIn; rw [HN.out, HLF.out, HHI.out]; simp [*], HK2.out⟩
    · rw [hl] at s1
      rcases hc3 with rfl | rfl | rfl
      · skip
        have HLF : spanLo s x = true := by rw [HLO.out]; simp [*]
        have HLF := Lib.hid HLF
        go_wp2_with (fail)
        go_ret
        exact ⟨by unfold spanIn; rw [HN.out, HLF.out]; simp, HK2.out⟩
      · cases hol : s.openLo
        · rw [hol] at s2
          have HLF : spanLo s x = false := by rw [HLO.out]; simp [*]
          have HLF := Lib.hid HLF
          cases hh : s.hasHi
          · rw [hh] at s6
            go_wp2_with (fail)
            go_ret
            exact ⟨by unfold spanIn; rw [HN.out, HLF.out, HHI.out]; simp [*], HK2.out⟩
          · rw [hh] at s6
            rcases hd3 with rfl | rfl | rfl
            · skip
              go_wp2_with (fail)
              go_ret
              exact ⟨by unfold spanIn; rw [HN.out, HLF.out, HHI.out]; simp [*], HK2.out⟩
            · cases ho : s.openHi
              · rw [ho] at s7
                go_wp2_with (fail)
                go_ret
                exact ⟨by unfold spanIn; rw [HN.out, HLF.out, HHI.out]; simp [*], HK2.out⟩
              · rw [ho] at s7
                go_wp2_with (fail)
                go_ret
                exact ⟨by unfold spanIn; rw [HN.out, HLF.out, HHI.out]; simp [*], HK2.out⟩
            · skip
              go_wp2_with (fail)
              go_ret
              exact ⟨by unfold spanIn; rw [HN.out, HLF.out, HHI.out]; simp [*], HK2.out⟩
        · rw [hol] at s2
          have HLF : spanLo s x = true := by rw [HLO.out]; simp [*]
          have HLF := Lib.hid HLF
          go_wp2_with (fail)
          go_ret
          exact ⟨by unfold spanIn; rw [HN.out, HLF.out]; simp, HK2.out⟩
      · skip
        have HLF : spanLo s x = false := by rw [HLO.out]; simp [*]
        have HLF := Lib.hid HLF
        cases hh : s.hasHi
        · rw [hh] at s6
          go_wp2_with (fail)
          go_ret
          exact ⟨by unfold spanIn; rw [HN.out, HLF.out, HHI.out]; simp [*], HK2.out⟩
        · rw [hh] at s6
          rcases hd3 with rfl | rfl | rfl
          · skip
            go_wp2_with (fail)
            go_ret
            exact ⟨by unfold spanIn; rw [HN.out, HLF.out, HHI.out]; simp [*], HK2.out⟩
          · cases ho : s.openHi
            · rw [ho] at s7
              go_wp2_with (fail)
              go_ret
              exact ⟨by unfold spanIn; rw [HN.out, HLF.out, HHI.out]; simp [*], HK2.out⟩
            · rw [ho] at s7
              go_wp2_with (fail)
              go_ret
              exact ⟨by unfold spanIn; rw [HN.out, HLF.out, HHI.out]; simp [*], HK2.out⟩
          · skip
            go_wp2_with (fail)
            go_ret
            exact ⟨by unfold spanIn; rw [HN.out, HLF.out, HHI.out]; simp [*], HK2.out⟩
  · rw [hn] at s0
    have HIN := Lib.hid (show spanIn s x = false by unfold spanIn; rw [hn]; rfl)
    go_wp2_with (fail)
    go_ret
    exact ⟨by rw [HIN.out]; rfl, HK0.out⟩
end Go.Proofs.Ytjijemeabfiipaa

/- The document's answer: Get, Delete over rows of pairs (ratlineref05). -/
namespace Go.Proofs.Ytjijemeabfiipaa
open Go.ChangeShapes Go.WideShapes Go.ChangeAt Go.RowKit
set_option maxRecDepth 100000
set_option linter.unusedSimpArgs false

theorem getP_at {L : PL} {k : Val} {i : Nat} {p : Val × VT} (h : ∀ x ∈ L.take i, x.1 ≠ k) (hp : L[i]? = some p) (hk : p.1 = k) : getP L k = some p := by
  have hlt := (List.getElem?_eq_some_iff.1 hp).1
  have e : L = L.take i ++ p :: L.drop (i + 1) := by
    rw [List.getElem?_eq_getElem hlt] at hp
    rw [← Option.some.inj hp, ← List.drop_eq_getElem_cons hlt, List.take_append_drop]
  unfold getP
  rw [e, List.find?_append, List.find?_eq_none.2 (fun x hx => by simp [h x hx])]
  simp [hk]
theorem getP_end {L : PL} {k : Val} (h : ∀ x ∈ L, x.1 ≠ k) : getP L k = none := by
  unfold getP
  exact List.find?_eq_none.2 (fun x hx => by simp [h x hx])
theorem mem_take_succ {α : Type} {L : List α} {i : Nat} {p : α} {P : α → Prop} (h : ∀ x ∈ L.take i, P x) (hp : L[i]? = some p) (hP : P p) : ∀ x ∈ L.take (i + 1), P x := by
  intro x hx
  rw [List.take_add_one, hp] at hx
  rcases List.mem_append.1 hx with hx | hx
  · exact h x hx
  · simp at hx; subst hx; exact hP

/-- a pair's cells in a row -/
theorem pair_cells {w : World} {g og N cap k : Nat} {xs : PL} {x : Val × VT} (h : Rd w 4 (.slice (some ⟨g, og, none⟩) N cap) N (xs.flatMap pcells)) (hx : xs[k]? = some x) :
    w.cell? ⟨g, og + k * 4, none⟩ = some (.bool x.1.t) ∧ w.cell? ⟨g, og + k * 4 + 1, none⟩ = some (.int .i64 x.1.n) ∧ w.cell? ⟨g, og + k * 4 + 2, none⟩ = some (.string x.1.s) ∧ w.cell? ⟨g, og + k * 4 + 3, none⟩ = some (.int .i64 x.2) := by
  have hlt := (List.getElem?_eq_some_iff.1 hx).1
  rcases h.2.2 with ⟨_, _, hv, _, _, _, hcell⟩
  cases hv
  rcases hcell with h0 | ⟨_, _, hg, hc⟩
  · have := h.1
    rw [flat_len plen] at this
    omega
  cases hg
  have f := fun j u hj => hc _ _ (flat_get plen xs k _ hx j u hj)
  have a0 := f 0 _ rfl
  have a1 := f 1 _ rfl
  have a2 := f 2 _ rfl
  have a3 := f 3 _ rfl
  rw [Nat.add_zero] at a0
  rw [← Nat.add_assoc] at a1 a2 a3
  exact ⟨a0, a1, a2, a3⟩
theorem pair_src {w : World} {ao : Option Addr} {N cap k : Nat} {xs : PL} {x : Val × VT} (h : Rd w 4 (.slice ao N cap) N (xs.flatMap pcells)) (hx : xs[k]? = some x) (hl : xs.length = N) : ∃ g og, ao = some ⟨g, og, none⟩ := by
  have hlt := (List.getElem?_eq_some_iff.1 hx).1
  rcases h.2.2 with ⟨_, _, hv, _, _, _, hc⟩
  cases hv
  rcases hc with h0 | ⟨g, o, hg, _⟩
  · omega
  · exact ⟨g, o, hg⟩

set_option maxHeartbeats 4000000 in
theorem rget_ok {w : World} {v : Value} {L : PL} (k : Val) (h : PairRd w v L) :
    Calls Try.prog 25 #[v, k.v] w fun e w' => e = .returned (.tuple #[.int .i64 (getV L k), .bool (getB L k)]) ∧ Kept (fun _ => False) w w' := by
  obtain ⟨wa, hwa⟩ : ∃ wa, wa = w.alloc (.cells #[.bool k.t, .int .i64 k.n, .string k.s] tV) := ⟨_, rfl⟩
  have hk1 : Kept (fun _ => False) w wa := by rw [hwa]; exact (Kept.refl _ _).alloc _
  have hb1 : wa.heap[w.heap.size]? = some (.cells #[.bool k.t, .int .i64 k.n, .string k.s] tV (0, 0)) := by rw [hwa]; exact heap_alloc_self w _
  obtain ⟨_, m1, ao, cap, rfl, hcap, hcap2, hao, _⟩ := id h
  have HX := Lib.hid (Rd.kept h hk1 (fun _ _ h => h))
  have HK := Lib.hid hk1
  have HWA := Lib.hid hwa
  obtain ⟨N, hN⟩ : ∃ N, L.length = N := ⟨_, rfl⟩
  have HN := Lib.hid hN
  rw [hN] at m1 hcap HX ⊢
  unfold maxLen at m1 hcap2
  have hb := cells3 hb1
  have HB := Lib.hid hb1
  clear h hk1 hwa hN hb hb1
  dsimp only [Val.v]
  go_enter Try.func25, Try.ntmps25
  go_upto_region 1 with (fail)
  rw [← HWA.out]
  clear HWA
  revert HB
  generalize w.heap.size = bk
  intro HB
  go_wp2_with fail
  go_loopw [6] (fun i wr => ∃ j : Nat, i = .int .i64 j ∧ j ≤ N ∧ (∀ x ∈ L.take j, x.1 ≠ k) ∧ ∃ n, wr = wa.drewN n) (fun i _ => N - (intOf i).toNat)
  case atStart => exact ⟨0, rfl, by omega, by simp, 0, rfl⟩
  case round =>
    obtain ⟨j, rfl, hj, hno, n0, rfl⟩ := hrel
    have HNO := Lib.hid hno
    clear hno
    by_cases hlt : j < N
    · obtain ⟨p, hp⟩ : ∃ p, L[j]? = some p := ⟨L[j]'(by rw [HN.out]; exact hlt), List.getElem?_eq_getElem _⟩
      obtain ⟨g, og, rfl⟩ := pair_src HX.out hp HN.out
      obtain ⟨c0, c1, c2, c3⟩ := pair_cells HX.out hp
      obtain ⟨x0, x1, x2, xf⟩ := cells3 HB.out
      have hi : (j : Int) < (N : Int) := by omega
      have HP := Lib.hid hp
      clear hp
      by_cases hpk : p.1 = k
      · have hv : valEqB p.1.t p.1.n p.1.s k.t k.n k.s = true := by rw [valEqB_val]; exact decide_eq_true hpk
        have HG := Lib.hid (getP_at HNO.out HP.out hpk)
        clear hpk
        go_wp2_with fail
        go_quiet (fail)
        go_wp2_with fail
        go_ret2
        exact ⟨by unfold getV getB; rw [HG.out]; rfl, HK.out.drewN _⟩
      · have hv : valEqB p.1.t p.1.n p.1.s k.t k.n k.s = false := by rw [valEqB_val]; exact decide_eq_false hpk
        have HNO2 := Lib.hid (mem_take_succ HNO.out HP.out hpk)
        clear hpk
        go_wp2_with fail
        go_quiet (fail)
        go_wp2_with fail
        go_roundw
        case rel => exact ⟨j + 1, by go_num, by omega, HNO2.out, _, rfl⟩
        case measure => simp [intOf]; omega
    · have HG := Lib.hid (getP_end (L := L) (k := k) (by have := HNO.out; rwa [List.take_of_length_le (by rw [HN.out]; omega)] at this))
      go_wp2_with fail
      go_ret2
      exact ⟨by unfold getV getB; rw [HG.out]; rfl, HK.out.drewN _⟩
end Go.Proofs.Ytjijemeabfiipaa

/- The document's answer: Delete over rows of pairs (ratlineref05). -/
namespace Go.Proofs.Ytjijemeabfiipaa
open Go.ChangeShapes Go.WideShapes Go.ChangeAt Go.RowKit
set_option maxRecDepth 100000
set_option linter.unusedSimpArgs false

/-- a row of pairs, owned -/
abbrev rowP (v : Value) (L : PL) : HP := ownS tP 4 v L.length (L.flatMap pcells)
def cutL (L : PL) (k : Val) : PL := L.filter (fun p => !decide (p.1 = k))
theorem filter_take_keep {α : Type} {p : α → Bool} {L : List α} {j : Nat} {x : α} (hx : L[j]? = some x) (hp : p x = true) : (L.take (j + 1)).filter p = (L.take j).filter p ++ [x] := by
  rw [List.take_add_one, hx, List.filter_append]
  simp [hp]
theorem filter_take_drop {α : Type} {p : α → Bool} {L : List α} {j : Nat} {x : α} (hx : L[j]? = some x) (hp : p x = false) : (L.take (j + 1)).filter p = (L.take j).filter p := by
  rw [List.take_add_one, hx, List.filter_append]
  simp [hp]
theorem rowP_snoc {B w : World} {D : PH} {v : Value} {L : PL} {x : Val × VT} {l : List HP} (h : Sat B D w (ownS tP 4 v (L.length + 1) (L.flatMap pcells ++ pcells x) :: l)) : Sat B D w (rowP v (L ++ [x]) :: l) := by
  unfold rowP
  rw [List.length_append, List.flatMap_append, List.flatMap_singleton]
  exact h
theorem rowP_rd {B w : World} {D : PH} {v : Value} {L : PL} {l : List HP} (h : Sat B D w l) (i : Nat) (hi : l[i]? = some (rowP v L)) : Rd w 4 v L.length (L.flatMap pcells) := (h.own i hi).rd

/-- a pair in a block of its own, to be put behind a row -/
theorem snoc_src {B w : World} {D : PH} {l : List HP} {A : HP} (h : Sat B D w (A :: l)) (x : Val × VT) :
    (∀ n, Sat B D ((w.drewN n).alloc (.cells #[.bool x.1.t, .int .i64 x.1.n, .string x.1.s, .int .i64 x.2] tP)) (A :: blk w.heap.size #[.bool x.1.t, .int .i64 x.1.n, .string x.1.s, .int .i64 x.2] tP :: l)) ∧
    (∀ n, Rd ((w.drewN n).alloc (.cells #[.bool x.1.t, .int .i64 x.1.n, .string x.1.s, .int .i64 x.2] tP)) 4 (.slice (some ⟨w.heap.size, 0, none⟩) 1 1) 1 [.bool x.1.t, .int .i64 x.1.n, .string x.1.s, .int .i64 x.2]) := by
  have h1 := fun n => (h.drewN n).alloc #[.bool x.1.t, .int .i64 x.1.n, .string x.1.s, .int .i64 x.2] tP
  exact ⟨fun n => (h1 n).swap, fun n => rd_block (size := 4) (n := 1) (h1 n).heap_blk rfl (by unfold maxLen; omega)⟩

set_option maxHeartbeats 4000000 in
theorem rdel_ok {B w : World} {D : PH} {v : Value} {L : PL} {l : List HP} (k : Val) (hL : L.length ≤ 1000000) (h : Sat B D w (rowP v L :: l)) :
    Calls Try.prog 34 #[v, k.v] w fun e w' => ∃ v', e = .returned (.tuple #[v', .bool (decide ((cutL L k).length < L.length))]) ∧ Sat B D w' (rowP v' (cutL L k) :: rowP v L :: l) := by
  have h1 := h.alloc #[.bool k.t, .int .i64 k.n, .string k.s] tV
  obtain ⟨ao, cap, rfl⟩ := h.own_shape
  have h2 := h1.own_nil tP 4
  have HS := Lib.hid h2
  obtain ⟨i0, hi, hz0, hz1, hz2⟩ := info_parts infoPair
  have HI := Lib.hid (And.intro hi (And.intro hz0 (And.intro hz1 hz2)))
  obtain ⟨N, hN⟩ : ∃ N, L.length = N := ⟨_, rfl⟩
  have HN := Lib.hid hN
  have e1 : rowP (.slice ao L.length cap) L = ownS tP 4 (.slice ao N cap) N (L.flatMap pcells) := by unfold rowP; rw [hN]
  have HE := Lib.hid e1
  rw [hN] at hL ⊢
  rw [e1] at HS
  clear h h1 h2 hN hi hz0 hz1 hz2 e1
  dsimp only [Val.v]
  go_enter Try.func34, Try.ntmps34
  go_upto_region 1 with (fail)
  obtain ⟨W, hW⟩ : ∃ W, W = w.alloc (.cells #[.bool k.t, .int .i64 k.n, .string k.s] tV) := ⟨_, rfl⟩
  rw [← hW] at HS ⊢
  clear hW
  revert HS
  generalize w.heap.size = bk
  intro HS
  go_wp2_with fail
  go_loopw [6, 7] (fun out i wr => ∃ (j : Nat), i = .int .i64 j ∧ j ≤ N ∧ Sat B D wr (rowP out (cutL (L.take j) k) :: blk bk #[.bool k.t, .int .i64 k.n, .string k.s] tV :: ownS tP 4 (.slice ao N cap) N (L.flatMap pcells) :: l)) (fun _ i _ => N - (intOf i).toNat)
  case atStart => exact ⟨0, rfl, by omega, HS.out⟩
  case round =>
    obtain ⟨j, rfl, hj, hs⟩ := hrel
    obtain ⟨o1, c1, rfl⟩ := hs.own_shape
    by_cases hlt : j < N
    · obtain ⟨p, hp⟩ : ∃ p, L[j]? = some p := ⟨L[j]'(by rw [HN.out]; exact hlt), List.getElem?_eq_getElem _⟩
      have hrd := (hs.own 2 rfl).rd
      obtain ⟨g, og, rfl⟩ := pair_src hrd hp HN.out
      obtain ⟨y0, y1, y2, y3⟩ := pair_cells hrd hp
      obtain ⟨x0, x1, x2, xf⟩ := cells3 (hs.blk 1 rfl)
      have hi : (j : Int) < (N : Int) := by omega
      have HP := Lib.hid hp
      have HSJ := Lib.hid hs
      clear hp hrd hs
      by_cases hpk : p.1 = k
      · have hv : valEqB p.1.t p.1.n p.1.s k.t k.n k.s = true := by rw [valEqB_val]; exact decide_eq_true hpk
        have HF := Lib.hid (filter_take_drop (p := fun p : Val × VT => !decide (p.1 = k)) HP.out (by simp [hpk]))
        clear hpk
        go_wp2_with fail
        go_quiet (fail)
        go_wp2_with fail
        go_roundw
        case rel => exact ⟨j + 1, by go_num, by omega, by have := HSJ.out.drewN nq; unfold cutL at this ⊢; rw [HF.out]; exact this⟩
        case measure => simp [intOf]; omega
      · have hv : valEqB p.1.t p.1.n p.1.s k.t k.n k.s = false := by rw [valEqB_val]; exact decide_eq_false hpk
        have HF := Lib.hid (filter_take_keep (p := fun p : Val × VT => !decide (p.1 = k)) HP.out (by simp [hpk]))
        clear hpk
        have hl1 : (cutL (L.take j) k).length ≤ j := by
          have := List.length_filter_le (fun p : Val × VT => !decide (p.1 = k)) (L.take j)
          rw [List.length_take] at this
          unfold cutL
          omega
        generalize hc : cutL (L.take j) k = C at hl1 HSJ
        have HC := Lib.hid hc
        clear hc
        generalize hcl : C.length = M at hl1
        have HCL := Lib.hid hcl
        have HS2 := Lib.hid (show Sat B D wr (ownS tP 4 (.slice o1 M c1) M (C.flatMap pcells) :: _) by have := HSJ.out; unfold rowP at this; rw [hcl] at this; exact this)
        clear hcl
        have HSN := Lib.hid (snoc_src HS2.out p)
        have HPO := Lib.hid (pone p)
        go_wp2_with fail
        go_quiet (fail)
        go_wp2_with ((at_builtin; refine wpList_append_Sat _ rfl _ _ tPs rfl tP i0 _ 4 40 Try.underlying33 HI.out.1 HI.out.2.1 HI.out.2.2.1 HI.out.2.2.2 rfl _ _ _ rfl (HSN.out.1 _) _ 1 _ rfl (HSN.out.2 _) HPO.out (by unfold maxLen; omega) (by omega) ?_; intro v2 w2 h2 h2o; have H2 := Lib.hid (h2.swap.drop); clear h2 h2o))
        go_roundw
        case rel =>
          refine ⟨j + 1, by go_num, by omega, ?_⟩
          have e : cutL (L.take (j + 1)) k = C ++ [p] := by rw [← HC.out]; exact HF.out
          rw [e]
          refine rowP_snoc ?_
          rw [HCL.out]
          exact H2.out
        case measure => simp [intOf]; omega
    · have hjN : j = N := by omega
      have hc : cutL (L.take j) k = cutL L k := by rw [List.take_of_length_le (by rw [HN.out]; omega)]
      have hl1 : (cutL L k).length ≤ N := by
        have := List.length_filter_le (fun p : Val × VT => !decide (p.1 = k)) L
        rw [HN.out] at this
        exact this
      have HC := Lib.hid hc
      have HSJ := Lib.hid hs
      have h0 : ¬ (j : Int) < (N : Int) := by omega
      clear hs hc hjN hlt
      go_wp2_with fail
      go_ret2
      refine ⟨.slice o1 (cutL (L.take j) k).length c1, ?_, ?_⟩
      · rw [HC.out]; simp
      · have h3 := HSJ.out.swap.drop
        rw [HC.out] at h3
        rw [HC.out]
        unfold rowP
        rw [HN.out]
        exact h3
end Go.Proofs.Ytjijemeabfiipaa

/- The document's answer: Range over rows of pairs (ratlineref05). -/
namespace Go.Proofs.Ytjijemeabfiipaa
open Go.ChangeShapes Go.WideShapes Go.ChangeAt Go.RowKit
set_option maxRecDepth 100000
set_option linter.unusedSimpArgs false

def FitsL (L : PL) : Prop := ∀ p ∈ L, p.1.fits

set_option maxHeartbeats 4000000 in
theorem rrange_ok {B w : World} {D : PH} {v : Value} {L : PL} {l : List HP} (s : Spn) (hsf : s.fits) (hfl : FitsL L) (hL : L.length ≤ 1000000) (h : Sat B D w (rowP v L :: l)) :
    Calls Try.prog 17 #[v, s.v] w fun e w' => ∃ v', e = .returned v' ∧ Sat B D w' (rowP v' (inS s L) :: rowP v L :: l) := by
  have h1 := h.alloc s.cells tS
  obtain ⟨ao, cap, rfl⟩ := h.own_shape
  have h2 := h1.own_nil tP 4
  have HS := Lib.hid h2
  obtain ⟨i0, hi, hz0, hz1, hz2⟩ := info_parts infoPair
  have HI := Lib.hid (And.intro hi (And.intro hz0 (And.intro hz1 hz2)))
  obtain ⟨N, hN⟩ : ∃ N, L.length = N := ⟨_, rfl⟩
  have HN := Lib.hid hN
  have HSF := Lib.hid hsf
  have HFL := Lib.hid hfl
  have e1 : rowP (.slice ao L.length cap) L = ownS tP 4 (.slice ao N cap) N (L.flatMap pcells) := by unfold rowP; rw [hN]
  rw [hN] at hL ⊢
  rw [e1] at HS
  clear h h1 h2 hN hi hz0 hz1 hz2 e1 hsf hfl
  dsimp only [Spn.v]
  go_enter Try.func17, Try.ntmps17
  go_upto_region 1 with (fail)
  obtain ⟨W, hW⟩ : ∃ W, W = w.alloc (.cells s.cells tS) := ⟨_, rfl⟩
  rw [← hW] at HS
  dsimp only [Spn.cells] at hW
  rw [← hW]
  clear hW
  revert HS
  generalize w.heap.size = bk
  intro HS
  go_wp2_with fail
  go_loopw [5, 6, 7] (fun out i _ wr => ∃ (j : Nat), i = .int .i64 j ∧ j ≤ N ∧ Sat B D wr (rowP out (inS s (L.take j)) :: blk bk s.cells tS :: ownS tP 4 (.slice ao N cap) N (L.flatMap pcells) :: l)) (fun _ i _ _ => N - (intOf i).toNat)
  case atStart => exact ⟨0, rfl, by omega, HS.out⟩
  case round =>
    obtain ⟨j, rfl, hj, hs⟩ := hrel
    obtain ⟨o1, c1, rfl⟩ := hs.own_shape
    by_cases hlt : j < N
    · obtain ⟨p, hp⟩ : ∃ p, L[j]? = some p := ⟨L[j]'(by rw [HN.out]; exact hlt), List.getElem?_eq_getElem _⟩
      have hrd := (hs.own 2 rfl).rd
      obtain ⟨g, og, rfl⟩ := pair_src hrd hp HN.out
      obtain ⟨y0, y1, y2, y3⟩ := pair_cells hrd hp
      obtain ⟨s0, s1, s2, s3, s4, s5, s6, s7, s8, s9, s10⟩ := Spn.at (s := s) (hs.blk 1 rfl)
      have hi : (j : Int) < (N : Int) := by omega
      have HP := Lib.hid hp
      have HSJ := Lib.hid hs
      have HPF := Lib.hid (HFL.out p (List.mem_of_getElem? hp))
      clear hp hrd hs
      have hl1 : (inS s (L.take j)).length ≤ j := by
        have := inS_len s (L.take j)
        rw [List.length_take] at this
        omega
      generalize hc : inS s (L.take j) = C at hl1 HSJ
      have HC := Lib.hid hc
      clear hc
      generalize hcl : C.length = M at hl1
      have HCL := Lib.hid hcl
      have HS2 := Lib.hid (show Sat B D wr (ownS tP 4 (.slice o1 M c1) M (C.flatMap pcells) :: _) by have := HSJ.out; unfold rowP at this; rw [hcl] at this; exact this)
      clear hcl
      go_upto_region 5 with (fail)
      refine wp_region_canon [(0, false, 6), (1, false, 6), (2, false, 6), (3, false, 6), (4, false, 6), (5, false, 6), (6, true, 0), (7, false, 999)] (by kernel_rfl) (by kernel_rfl) ?_
      iterate 6 (refine wpCan_read rfl rfl (fun K hK => ?_); go_simp; refine hK _ ?_; clear hK K)
      refine wpCan_eff rfl ?_
      refine wpList_do rfl (fun K hK => ?_)
      go_simp
      refine (rwithin_ok s p.1 HSF.out HPF.out _).mono ?_
      rintro e3 w3 ⟨rfl, hk3⟩
      have HS3 := Lib.hid (HS2.out.drew.kept hk3)
      clear hk3 y0 y1 y2 y3 s0 s1 s2 s3 s4 s5 s6 s7 s8 s9 s10
      refine hK _ _ ?_
      clear hK K
      refine wpList_nil ?_
      refine And.intro ?_ ?_
      · go_simp
      iterate 1 (refine wpCan_read rfl rfl (fun K hK => ?_); go_simp; refine hK _ ?_; clear hK K)
      refine wpCan_nil ?_
      obtain ⟨y0, y1, y2, y3⟩ := pair_cells (HS3.out.own 2 rfl).rd HP.out
      rcases (show spanIn s p.1 = false ∨ spanIn s p.1 = true by cases spanIn s p.1 <;> simp) with hin | hin
      all_goals rw [hin]
      · have HF := Lib.hid (filter_take_drop (p := fun p : Val × VT => spanIn s p.1) HP.out hin)
        clear hin
        go_wp2_with fail
        go_roundw
        case rel =>
          refine ⟨j + 1, by go_num, by omega, ?_⟩
          have e : inS s (L.take (j + 1)) = C := by rw [← HC.out]; exact HF.out
          rw [e]
          unfold rowP
          rw [HCL.out]
          exact HS3.out
        case measure => simp [intOf]; omega
      · have HF := Lib.hid (filter_take_keep (p := fun p : Val × VT => spanIn s p.1) HP.out hin)
        have HSN := Lib.hid (snoc_src HS3.out p)
        have HPO := Lib.hid (pone p)
        clear hin
        go_wp2_with ((at_builtin; refine wpList_append_Sat _ rfl _ _ tPs rfl tP i0 _ 4 40 Try.underlying33 HI.out.1 HI.out.2.1 HI.out.2.2.1 HI.out.2.2.2 rfl _ _ _ rfl (HSN.out.1 0) _ 1 _ rfl (HSN.out.2 0) HPO.out (by unfold maxLen; omega) (by omega) ?_; intro v2 w2 h2 h2o; have H2 := Lib.hid (h2.swap.drop); clear h2 h2o))
        go_roundw
        case rel =>
          refine ⟨j + 1, by go_num, by omega, ?_⟩
          have e : inS s (L.take (j + 1)) = C ++ [p] := by rw [← HC.out]; exact HF.out
          rw [e]
          refine rowP_snoc ?_
          rw [HCL.out]
          exact H2.out
        case measure => simp [intOf]; omega
    · have hjN : j = N := by omega
      have hc : inS s (L.take j) = inS s L := by rw [List.take_of_length_le (by rw [HN.out]; omega)]
      have HC := Lib.hid hc
      have HSJ := Lib.hid hs
      have h0 : ¬ (j : Int) < (N : Int) := by omega
      clear hs hc hjN hlt
      go_wp2_with fail
      go_ret
      refine ⟨.slice o1 (inS s (L.take j)).length c1, rfl, ?_⟩
      have h3 := HSJ.out.swap.drop
      rw [HC.out] at h3
      rw [HC.out]
      unfold rowP
      rw [HN.out]
      exact h3
end Go.Proofs.Ytjijemeabfiipaa

/- The document's answer: Put over rows of pairs (ratlineref05). -/
namespace Go.Proofs.Ytjijemeabfiipaa
open Go.ChangeShapes Go.WideShapes Go.ChangeAt Go.RowKit
set_option maxRecDepth 100000
set_option linter.unusedSimpArgs false

/-- behind some of a row: not yet put, or put -/
def PutS (P : PL) (k : Val) (v : VT) (out : PL) (dn fr : Bool) : Prop :=
  (dn = false ∧ fr = true ∧ (∀ x ∈ P, valCmp x.1 k < 0) ∧ out = P) ∨ (dn = true ∧ fr = (!hasK P k) ∧ out = insL P k v ∧ ∃ x ∈ P, 0 ≤ valCmp x.1 k)
theorem insL_all {P : PL} {k : Val} {v : VT} (h : ∀ x ∈ P, valCmp x.1 k < 0) : insL P k v = P ++ [(k, v)] := by
  have := insL_at (A := P) (Bs := []) (M := []) (v := v) h (by simp) (by simp)
  simpa using this
theorem hasK_lt {P : PL} {k : Val} (h : ∀ x ∈ P, valCmp x.1 k < 0) : hasK P k = false := by
  have := hasK_mid (A := P) (M := []) (Bs := []) h (by simp)
  simpa [hasK] using this
theorem take_snoc {α : Type} {L : List α} {j : Nat} {p : α} (h : L[j]? = some p) : L.take (j + 1) = L.take j ++ [p] := by
  rw [List.take_add_one, h]; rfl
theorem take_lt {L : PL} (hs : SortedL L) {j : Nat} {p : Val × VT} (h : L[j]? = some p) : ∀ x ∈ L.take j, valCmp x.1 p.1 < 0 := by
  have hlt := (List.getElem?_eq_some_iff.1 h).1
  refine mem_take_get (fun i x hx hi => ?_)
  have hil := (List.getElem?_eq_some_iff.1 hx).1
  have := List.pairwise_iff_getElem.1 hs i j hil hlt hi
  rw [List.getElem?_eq_getElem hlt] at h
  rw [List.getElem?_eq_getElem hil] at hx
  rw [Option.some.inj h, Option.some.inj hx] at this
  exact this
theorem PutS.lt {L : PL} {k : Val} {v : VT} {j : Nat} {p : Val × VT} {out : PL} {dn fr : Bool} (hs : SortedL L) (hp : L[j]? = some p) (h : PutS (L.take j) k v out dn fr) (hc : valCmp p.1 k < 0) : dn = false ∧ PutS (L.take (j + 1)) k v (out ++ [p]) dn fr := by
  rcases h with ⟨rfl, rfl, h1, rfl⟩ | ⟨rfl, rfl, rfl, x, hx, hx0⟩
  · refine ⟨rfl, .inl ⟨rfl, rfl, fun x hx => ?_, (take_snoc hp).symm⟩⟩
    rw [take_snoc hp] at hx
    rcases List.mem_append.1 hx with hx | hx
    · exact h1 x hx
    · simp at hx; subst hx; exact hc
  · have := lt_trans' (take_lt hs hp x hx) hc
    omega
theorem PutS.eq {L : PL} {k : Val} {v : VT} {j : Nat} {p : Val × VT} {out : PL} {dn fr : Bool} (hs : SortedL L) (hp : L[j]? = some p) (h : PutS (L.take j) k v out dn fr) (hc : valCmp p.1 k = 0) : PutS (L.take (j + 1)) k v (out ++ [(k, v)]) true false := by
  rcases h with ⟨rfl, rfl, h1, rfl⟩ | ⟨rfl, rfl, rfl, x, hx, hx0⟩
  · have e1 := insL_at (A := L.take j) (M := [p]) (Bs := []) (v := v) h1 (fun x hx => by simp at hx; subst hx; exact hc) (by simp)
    have e2 := hasK_mid (A := L.take j) (M := [p]) (Bs := []) h1 (by simp)
    simp only [List.append_nil] at e1 e2
    refine .inr ⟨rfl, ?_, ?_, p, ?_, by omega⟩
    · rw [take_snoc hp, e2]; simp [hasK, hc]
    · rw [take_snoc hp, e1]
    · rw [take_snoc hp]; simp
  · have := lt_le (take_lt hs hp x hx) (show valCmp p.1 k ≤ 0 by omega)
    omega
theorem PutS.gt_new {L : PL} {k : Val} {v : VT} {j : Nat} {p : Val × VT} {out : PL} {fr : Bool} (hp : L[j]? = some p) (h : PutS (L.take j) k v out false fr) (hc : valCmp p.1 k > 0) : PutS (L.take (j + 1)) k v (out ++ [(k, v)] ++ [p]) true fr := by
  rcases h with ⟨_, rfl, h1, rfl⟩ | ⟨h, _⟩
  · have hg := (gt_iff p.1 k).1 hc
    have e1 := insL_at (A := L.take j) (M := []) (Bs := [p]) (v := v) h1 (by simp) (fun x hx => by simp at hx; subst hx; exact hg)
    have e2 := hasK_mid (A := L.take j) (M := []) (Bs := [p]) h1 (fun x hx => by simp at hx; subst hx; exact hg)
    simp only [List.append_nil] at e1 e2
    refine .inr ⟨rfl, ?_, ?_, p, ?_, by omega⟩
    · rw [take_snoc hp, e2]; rfl
    · rw [take_snoc hp, e1]; simp
    · rw [take_snoc hp]; simp
  · cases h
theorem PutS.gt_old {L : PL} {k : Val} {v : VT} {j : Nat} {p : Val × VT} {out : PL} {fr : Bool} (hp : L[j]? = some p) (h : PutS (L.take j) k v out true fr) (hc : valCmp p.1 k > 0) : PutS (L.take (j + 1)) k v (out ++ [p]) true fr := by
  rcases h with ⟨h, _⟩ | ⟨_, rfl, rfl, x, hx, hx0⟩
  · cases h
  · have hg := (gt_iff p.1 k).1 hc
    have e1 := insL_mid (A := []) (M := L.take j) (Bs := [p]) (k := k) (v := v) (by simp) (fun x hx => by simp at hx; subst hx; exact hg)
    have e2 := hasK_mid (A := []) (M := L.take j) (Bs := [p]) (k := k) (by simp) (fun x hx => by simp at hx; subst hx; exact hg)
    simp only [List.nil_append] at e1 e2
    refine .inr ⟨rfl, ?_, ?_, x, ?_, hx0⟩
    · rw [take_snoc hp, e2]
    · rw [take_snoc hp, e1]
    · rw [take_snoc hp]; exact List.mem_append.2 (.inl hx)
theorem PutS.len {P : PL} {k : Val} {v : VT} {out : PL} {dn fr : Bool} (hs : SortedL P) (h : PutS P k v out dn fr) : out.length ≤ P.length + 1 := by
  rcases h with ⟨_, _, _, rfl⟩ | ⟨_, _, rfl, _⟩
  · omega
  · rw [insL_len hs]; split <;> omega
theorem PutS.end_ {P : PL} {k : Val} {v : VT} {out : PL} {dn fr : Bool} (h : PutS P k v out dn fr) : fr = (!hasK P k) ∧ insL P k v = if dn then out else out ++ [(k, v)] := by
  rcases h with ⟨rfl, rfl, h1, rfl⟩ | ⟨rfl, rfl, rfl, _⟩
  · exact ⟨by rw [hasK_lt h1]; rfl, insL_all h1⟩
  · exact ⟨rfl, rfl⟩
end Go.Proofs.Ytjijemeabfiipaa
