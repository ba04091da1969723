/- Joined texts: The document's answer: Compare (ratlineref01). The document's answer: Within (ratlineref04). -/
import Derived.Test.YtcbklkcpjldcjaaJ35
/- The document's answer: Compare (ratlineref01). -/
namespace Go.Proofs.Ytcbklkcpjldcjaa
open Go.ChangeShapes Go.WideShapes Go.ChangeAt Go.RowKit
set_option maxRecDepth 100000
set_option linter.unusedSimpArgs false

theorem bl_pre : ∀ (k : Nat) (xs ys : List UInt8), xs.take k = ys.take k → k ≤ xs.length → k ≤ ys.length → Op.bytesLess xs ys = Op.bytesLess (xs.drop k) (ys.drop k)
  | 0, _, _, _, _, _ => rfl
  | k + 1, [], _, _, h, _ => by simp at h
  | k + 1, _ :: _, [], _, _, h => by simp at h
  | k + 1, x :: xs, y :: ys, h, h1, h2 => by
    simp only [List.take_succ_cons, List.cons.injEq] at h
    obtain ⟨rfl, h⟩ := h
    have := bl_pre k xs ys h (by simpa using h1) (by simpa using h2)
    simp only [List.drop_succ_cons]
    rw [← this]
    simp [Op.bytesLess]
theorem bl_irrefl : ∀ (xs : List UInt8), Op.bytesLess xs xs = false
  | [] => rfl
  | x :: xs => by simp [Op.bytesLess, bl_irrefl xs]
theorem cmp_at_lt {xs ys : List UInt8} {k : Nat} {x y : UInt8} (h : xs.take k = ys.take k) (hx : xs[k]? = some x) (hy : ys[k]? = some y) (hlt : x < y) : Op.bytesLess xs ys = true := by
  have h1 := (List.getElem?_eq_some_iff.1 hx).1
  have h2 := (List.getElem?_eq_some_iff.1 hy).1
  rw [bl_pre k xs ys h (by omega) (by omega), List.drop_eq_getElem_cons h1, List.drop_eq_getElem_cons h2]
  rw [List.getElem?_eq_getElem h1] at hx
  rw [List.getElem?_eq_getElem h2] at hy
  rw [Option.some.inj hx, Option.some.inj hy]
  simp [Op.bytesLess, hlt]
theorem cmpS_val (a b : ByteArray) : cmpS a b = if Op.bytesLess a.data.toList b.data.toList then -1 else if a.data.toList = b.data.toList then 0 else 1 := by
  unfold cmpS
  rw [ByteArray.toList_eq, ByteArray.toList_eq]
  by_cases h : a.data.toList = b.data.toList
  · rw [h]; simp
  · rw [beq_eq_false_iff_ne.2 h, if_neg h]; rfl
theorem cmpS_lt {a b : ByteArray} {k : Nat} {x y : UInt8} (h : a.data.toList.take k = b.data.toList.take k) (hx : a.data.toList[k]? = some x) (hy : b.data.toList[k]? = some y) (hlt : x < y) : cmpS a b = -1 := by
  rw [cmpS_val, cmp_at_lt h hx hy hlt, if_pos rfl]
theorem cmpS_gt {a b : ByteArray} {k : Nat} {x y : UInt8} (h : a.data.toList.take k = b.data.toList.take k) (hx : a.data.toList[k]? = some x) (hy : b.data.toList[k]? = some y) (hlt : y < x) : cmpS a b = 1 := by
  rw [cmpS_swap b a, cmpS_lt h.symm hy hx hlt]; rfl
theorem cmpS_short {a b : ByteArray} (h : a.data.toList.take a.size = b.data.toList.take a.size) (hl : a.size < b.size) : cmpS a b = -1 := by
  have e1 : a.data.toList.length = a.size := by cases a; rfl
  have e2 : b.data.toList.length = b.size := by cases b; rfl
  rw [cmpS_val, bl_pre a.size _ _ h (by omega) (by omega), List.drop_of_length_le (by omega), List.drop_eq_getElem_cons (by omega)]
  rfl
theorem cmpS_long {a b : ByteArray} (h : a.data.toList.take b.size = b.data.toList.take b.size) (hl : b.size < a.size) : cmpS a b = 1 := by
  rw [cmpS_swap b a, cmpS_short h.symm hl]; rfl
theorem cmpS_same {a b : ByteArray} (h : a.data.toList.take a.size = b.data.toList.take a.size) (hl : a.size = b.size) : cmpS a b = 0 := by
  have e1 : a.data.toList.length = a.size := by cases a; rfl
  have e2 : b.data.toList.length = b.size := by cases b; rfl
  rw [List.take_of_length_le (by omega), List.take_of_length_le (by omega)] at h
  rw [cmpS_val, h, bl_irrefl]; simp

/-- a value that fits -/
def Val.fits (v : Val) : Prop := v.s.size ≤ maxLen

set_option maxHeartbeats 4000000 in
theorem rcmp_ok (a b : Val) (ha : a.fits) (hb : b.fits) (w : World) : Calls Try.prog 61 #[a.v, b.v] w fun e w' => e = .returned (.int .i64 (valCmp a b)) ∧ Kept (fun _ => False) w w' := by
  obtain ⟨at_, an, sa⟩ := a
  obtain ⟨bt, bn, sb⟩ := b
  unfold Val.fits maxLen at ha hb
  dsimp only at ha hb
  obtain ⟨w1, hw1⟩ : ∃ w1, w1 = w.alloc (.cells #[.bool at_, .int .i64 an, .string sa] 23) := ⟨_, rfl⟩
  obtain ⟨w2, hw2⟩ : ∃ w2, w2 = w1.alloc (.cells #[.bool bt, .int .i64 bn, .string sb] 23) := ⟨_, rfl⟩
  have hk1 : Kept (fun _ => False) w w1 := by rw [hw1]; exact (Kept.refl _ _).alloc _
  have hk2 : Kept (fun _ => False) w1 w2 := by rw [hw2]; exact (Kept.refl _ _).alloc _
  have hb1 : w1.heap[w.heap.size]? = some (.cells #[.bool at_, .int .i64 an, .string sa] 23 (0, 0)) := by rw [hw1]; exact heap_alloc_self w _
  have hb2 : w2.heap[w1.heap.size]? = some (.cells #[.bool bt, .int .i64 bn, .string sb] 23 (0, 0)) := by rw [hw2]; exact heap_alloc_self w1 _
  have hsz : w1.heap.size = w.heap.size + 1 := by rw [hw1]; simp
  have HK := Lib.hid (hk1.trans hk2 (fun _ h => h.elim))
  have HA := Lib.hid ((hk2.block _ (lt_of_heap hb1) (fun h => h)).trans hb1)
  have HB := Lib.hid hb2
  have HW := Lib.hid (And.intro hw1 (And.intro hw2 hsz))
  clear hk1 hk2 hb1 hb2 hsz hw1 hw2
  dsimp only [Val.v]
  go_enter Try.func61, Try.ntmps61
  go_upto_region 1 with (fail)
  rw [← HW.out.1, ← HW.out.2.1]
  rw [HW.out.2.2] at HB
  clear HW
  revert HA HB
  generalize w.heap.size = ba
  intro HA HB
  obtain ⟨x0, x1, x2, xf⟩ := cells3 HA.out
  obtain ⟨y0, y1, y2, yf⟩ := cells3 HB.out
  rcases (show at_ = false ∨ at_ = true by cases at_ <;> simp) with rfl | rfl <;> rcases (show bt = false ∨ bt = true by cases bt <;> simp) with rfl | rfl
  · by_cases h1 : an < bn
    · go_wp2_with fail
      go_ret
      exact ⟨by simp [valCmp, cmpI, h1], HK.out⟩
    · by_cases h2 : bn < an
      · go_wp2_with fail
        go_ret
        exact ⟨by simp [valCmp, cmpI, h1, h2], HK.out⟩
      · have HV := Lib.hid (show valCmp ⟨false, an, sa⟩ ⟨false, bn, sb⟩ = 0 by simp [valCmp, cmpI, h1, h2])
        go_wp2_with fail
        go_ret
        exact ⟨by rw [HV.out]; rfl, HK.out⟩
  · go_wp2_with fail
    go_ret
    exact ⟨by simp [valCmp], HK.out⟩
  · go_wp2_with fail
    go_ret
    exact ⟨by simp [valCmp], HK.out⟩
  · have e1 : sa.data.toList.length = sa.size := by cases sa; rfl
    have e2 : sb.data.toList.length = sb.size := by cases sb; rfl
    have HE1 := Lib.hid e1
    have HE2 := Lib.hid e2
    have HC := Lib.hid (show valCmp ⟨true, an, sa⟩ ⟨true, bn, sb⟩ = cmpS sa sb by simp [valCmp])
    clear e1 e2
    generalize hna : sa.size = na at ha
    generalize hnb : sb.size = nb at hb
    go_wp2_with fail
    go_loopw [5] (fun i wr => ∃ j : Nat, i = .int .i64 j ∧ j ≤ na ∧ j ≤ nb ∧ sa.data.toList.take j = sb.data.toList.take j ∧ ∃ n, wr = w2.drewN n) (fun i _ => na - (intOf i).toNat)
    case atStart => exact ⟨0, rfl, by omega, by omega, rfl, 0, rfl⟩
    case round =>
      obtain ⟨j, rfl, hj1, hj2, hte, n0, rfl⟩ := hrel
      have HT := Lib.hid hte
      clear hte
      by_cases hlt : j < na ∧ j < nb
      · obtain ⟨g1, g2⟩ := hlt
        have i1 : (j : Int) < (na : Int) := by omega
        have i2 : (j : Int) < (nb : Int) := by omega
        have s1 : j < sa.size := by omega
        have s2 : j < sb.size := by omega
        obtain ⟨x, hx⟩ : ∃ x, sa.data.toList[j]? = some x := ⟨_, List.getElem?_eq_getElem (by have := HE1.out; omega)⟩
        obtain ⟨y, hy⟩ : ∃ y, sb.data.toList[j]? = some y := ⟨_, List.getElem?_eq_getElem (by have := HE2.out; omega)⟩
        have hx2 : sa[j] = x := by
          have : sa.data.toList[j]? = some sa[j] := by
            cases sa; rw [Array.getElem?_toList]; exact Array.getElem?_eq_getElem s1
          rw [hx] at this; exact (Option.some.inj this).symm
        have hy2 : sb[j] = y := by
          have : sb.data.toList[j]? = some sb[j] := by
            cases sb; rw [Array.getElem?_toList]; exact Array.getElem?_eq_getElem s2
          rw [hy] at this; exact (Option.some.inj this).symm
        have HX := Lib.hid hx
        have HY := Lib.hid hy
        clear hx hy
        rcases (show x < y ∨ y < x ∨ x = y by
          rcases Nat.lt_trichotomy x.toNat y.toNat with h | h | h
          · exact .inl h
          · exact .inr (.inr (UInt8.toNat_inj.1 h))
          · exact .inr (.inl h)) with hxy | hxy | rfl
        · have HR := Lib.hid (cmpS_lt HT.out HX.out HY.out hxy)
          have q1 : (x.toNat : Int) < (y.toNat : Int) := by have : x.toNat < y.toNat := hxy; omega
          go_wp2_with fail
          go_quiet (fail)
          go_wp2_with fail
          go_ret
          exact ⟨by rw [HC.out, HR.out]; rfl, (HK.out.drewN _).drewN _⟩
        · have HR := Lib.hid (cmpS_gt HT.out HX.out HY.out hxy)
          have q1 : (y.toNat : Int) < (x.toNat : Int) := by have : y.toNat < x.toNat := hxy; omega
          have q2 : ¬ (x.toNat : Int) < (y.toNat : Int) := by omega
          go_wp2_with fail
          go_quiet (fail)
          go_wp2_with fail
          go_quiet (fail)
          go_wp2_with fail
          go_ret
          exact ⟨by rw [HC.out, HR.out]; rfl, ((HK.out.drewN _).drewN _).drewN _⟩
        · have q1 : ¬ (x.toNat : Int) < (x.toNat : Int) := by omega
          go_wp2_with fail
          go_quiet (fail)
          go_wp2_with fail
          go_quiet (fail)
          go_wp2_with fail
          go_roundw
          case rel => exact ⟨j + 1, by go_num, by omega, by omega, take_succ_eq HT.out HX.out HY.out, _, rfl⟩
          case measure => simp [intOf]; omega
      · have HS := Lib.hid (show cmpS sa sb = if na < nb then -1 else if nb < na then 1 else 0 by
          have ht := HT.out
          by_cases h1 : na < nb
          · rw [if_pos h1]
            exact cmpS_short (by rw [hna, show na = j by omega]; exact ht) (by omega)
          · rw [if_neg h1]
            by_cases h2 : nb < na
            · rw [if_pos h2]
              exact cmpS_long (by rw [hnb, show nb = j by omega]; exact ht) (by omega)
            · rw [if_neg h2]
              exact cmpS_same (by rw [hna, show na = j by omega]; exact ht) (by omega))
        by_cases h1 : na < nb
        · have q1 : (na : Int) < (nb : Int) := by omega
          have hcut : ¬ (j : Int) < (na : Int) := by omega
          go_wp2_with fail
          go_ret
          exact ⟨by rw [HC.out, HS.out, if_pos h1]; rfl, HK.out.drewN _⟩
        · by_cases h2 : nb < na
          · have q1 : ¬ (na : Int) < (nb : Int) := by omega
            have q2 : (nb : Int) < (na : Int) := by omega
            have hc1 : (j : Int) < (na : Int) := by omega
            have hcut : ¬ (j : Int) < (nb : Int) := by omega
            go_wp2_with fail
            go_ret
            exact ⟨by rw [HC.out, HS.out, if_neg h1, if_pos h2]; rfl, HK.out.drewN _⟩
          · have q1 : ¬ (na : Int) < (nb : Int) := by omega
            have q2 : ¬ (nb : Int) < (na : Int) := by omega
            have hcut : ¬ (j : Int) < (na : Int) := by omega
            go_wp2_with fail
            go_ret
            exact ⟨by rw [HC.out, HS.out, if_neg h1, if_neg h2]; rfl, HK.out.drewN _⟩
end Go.Proofs.Ytcbklkcpjldcjaa

/- The document's answer: Within (ratlineref04). -/
namespace Go.Proofs.Ytcbklkcpjldcjaa
open Go.ChangeShapes Go.WideShapes Go.ChangeAt Go.RowKit
set_option maxRecDepth 100000
set_option linter.unusedSimpArgs false

def Spn.fits (s : Spn) : Prop := s.lo.fits ∧ s.hi.fits
set_option maxHeartbeats 8000000 in
theorem rwithin_ok (s : Spn) (x : Val) (hsf : s.fits) (hxf : x.fits) (w : World) : Calls Try.prog 46 #[s.v, x.v] w fun e w' => e = .returned (.bool (spanIn s x)) ∧ Kept (fun _ => False) w w' := by
  have hk0 : Kept (fun _ => False) w ((w.alloc (.cells s.cells tS)).alloc (.cells #[.bool x.t, .int .i64 x.n, .string x.s] 23)) := ((Kept.refl _ _).alloc _).alloc _
  have hb1 : ((w.alloc (.cells s.cells tS)).alloc (.cells #[.bool x.t, .int .i64 x.n, .string x.s] 23)).heap[w.heap.size]? = some (.cells s.cells tS (0, 0)) := (((Kept.refl (fun _ => False) (w.alloc (.cells s.cells tS))).alloc _).block _ (by simp) (fun h => h)).trans (heap_alloc_self w _)
  have hb2 : ((w.alloc (.cells s.cells tS)).alloc (.cells #[.bool x.t, .int .i64 x.n, .string x.s] 23)).heap[w.heap.size + 1]? = some (.cells #[.bool x.t, .int .i64 x.n, .string x.s] 23 (0, 0)) := by
    have := heap_alloc_self (w.alloc (.cells s.cells tS)) (.cells #[.bool x.t, .int .i64 x.n, .string x.s] 23)
    rw [World.size_alloc] at this
    exact this
  have HK0 := Lib.hid hk0
  have HB1 := Lib.hid hb1
  have HB2 := Lib.hid hb2
  have HSF := Lib.hid hsf
  have HXF := Lib.hid hxf
  clear hk0 hb1 hb2 hsf hxf
  dsimp only [Spn.v, Val.v]
  go_enter Try.func46, Try.ntmps46
  go_upto_region 1 with (fail)
  obtain ⟨W, hW⟩ : ∃ W, W = (w.alloc (.cells s.cells tS)).alloc (.cells #[.bool x.t, .int .i64 x.n, .string x.s] 23) := ⟨_, rfl⟩
  dsimp only [Spn.cells] at hW
  rw [← hW]
  dsimp only [Spn.cells] at HK0 HB1 HB2
  rw [← hW] at HK0 HB1 HB2
  generalize w.heap.size + 1 = bx at HB2 ⊢
  generalize w.heap.size = bs at HB1 ⊢
  clear hW
  obtain ⟨s0, s1, s2, s3, s4, s5, s6, s7, s8, s9, s10⟩ := Spn.at (s := s) HB1.out
  obtain ⟨x0, x1, x2, xf⟩ := cells3 HB2.out
  cases hn : s.no
  · rw [hn] at s0
    have HN := Lib.hid hn
    clear hn
    go_upto_region 4 with ((go_at_call 61; refine (rcmp_ok x s.lo HXF.out HSF.out.1 _).mono ?_; rintro e1 w1 ⟨rfl, hk1⟩; have HK1 := Lib.hid (HK0.out.trans hk1 (fun _ h => h.elim)); have HB11 := Lib.hid ((hk1.block bs (lt_of_heap HB1.out) (fun h => h)).trans HB1.out); have HB21 := Lib.hid ((hk1.block bx (lt_of_heap HB2.out) (fun h => h)).trans HB2.out); clear hk1 s0 s1 s2 s3 s4 s5 s6 s7 s8 s9 s10 x0 x1 x2 xf))
    obtain ⟨s0, s1, s2, s3, s4, s5, s6, s7, s8, s9, s10⟩ := Spn.at (s := s) HB11.out
    obtain ⟨x0, x1, x2, xf⟩ := cells3 HB21.out
    go_upto_region 5 with ((go_at_call 61; refine (rcmp_ok x s.hi HXF.out HSF.out.2 _).mono ?_; rintro e2 w2 ⟨rfl, hk2⟩; have HK2 := Lib.hid (HK1.out.trans hk2 (fun _ h => h.elim)); have HB12 := Lib.hid ((hk2.block bs (lt_of_heap HB11.out) (fun h => h)).trans HB11.out); clear hk2 s0 s1 s2 s3 s4 s5 s6 s7 s8 s9 s10 x0 x1 x2 xf))
    obtain ⟨s0, s1, s2, s3, s4, s5, s6, s7, s8, s9, s10⟩ := Spn.at (s := s) HB12.out
    have hc3 := cmp_three x s.lo
    have hd3 := cmp_three x s.hi
    have HLO := Lib.hid (spanLo_eq s x)
    have HHI := Lib.hid (spanHi_eq s x)
    generalize valCmp x s.lo = c at HLO hc3 ⊢
    generalize valCmp x s.hi = d at HHI hd3 ⊢
    cases hl : s.hasLo
    · rw [hl] at s1
      have HLF : spanLo s x = false := by rw [HLO.out]; simp [*]
      have HLF := Lib.hid HLF
      cases hh : s.hasHi
      · rw [hh] at s6
        go_wp2_with (fail)
        go_ret
        exact ⟨by unfold spanIn; rw [HN.out, HLF.out, HHI.out]; simp [*], HK2.out⟩
      · rw [hh] at s6
        rcases hd3 with rfl | rfl | rfl
        · skip
          go_wp2_with (fail)
          go_ret
          exact ⟨by unfold spanIn; rw [HN.out, HLF.out, HHI.out]; simp [*], HK2.out⟩
        · cases ho : s.openHi
          · rw [ho] at s7
            go_wp2_with (fail)
            go_ret
            exact ⟨by unfold spanIn; rw [HN.out, HLF.out, HHI.out]; simp [*], HK2.out⟩
          · rw [ho] at s7
            go_wp2_with (fail)
            go_ret
            exact ⟨by unfold spanIn; rw [HN.out, HLF.out, HHI.out]; simp [*], HK2.out⟩
        · skip
          go_wp2_with (fail)
          go_ret
          exact ⟨by unfold spanIn; rw [HN.out, HLF.out, HHI.out]; simp [*], HK2.out⟩
    · rw [hl] at s1
      rcases hc3 with rfl | rfl | rfl
      · skip
        have HLF : spanLo s x = true := by rw [HLO.out]; simp [*]
        have HLF := Lib.hid HLF
        go_wp2_with (fail)
        go_ret
        exact ⟨by unfold spanIn; rw [HN.out, HLF.out]; simp, HK2.out⟩
      · cases hol : s.openLo
        · rw [hol] at s2
          have HLF : spanLo s x = false := by rw [HLO.out]; simp [*]
          have HLF := Lib.hid HLF
          cases hh : s.hasHi
          · rw [hh] at s6
            go_wp2_with (fail)
            go_ret
            exact ⟨by unfold spanIn; rw [HN.out, HLF.out, HHI.out]; simp [*], HK2.out⟩
          · rw [hh] at s6
            rcases hd3 with rfl | rfl | rfl
            · skip
              go_wp2_with (fail)
              go_ret
              exact ⟨by unfold spanIn; rw [HN.out, HLF.out, HHI.out]; simp [*], HK2.out⟩
            · cases ho : s.openHi
              · rw [ho] at s7
                go_wp2_with (fail)
                go_ret
                exact ⟨by unfold spanIn; rw [HN.out, HLF.out, HHI.out]; simp [*], HK2.out⟩
              · rw [ho] at s7
                go_wp2_with (fail)
                go_ret
                exact ⟨by unfold spanIn; rw [HN.out, HLF.out, HHI.out]; simp [*], HK2.out⟩
            · skip
              go_wp2_with (fail)
              go_ret
              exact ⟨by unfold spanIn; rw [HN.out, HLF.out, HHI.out]; simp [*], HK2.out⟩
        · rw [hol] at s2
          have HLF : spanLo s x = true := by rw [HLO.out]; simp [*]
          have HLF := Lib.hid HLF
          go_wp2_with (fail)
          go_ret
          exact ⟨by unfold spanIn; rw [HN.out, HLF.out]; simp, HK2.out⟩
      · skip
        have HLF : spanLo s x = false := by rw [HLO.out]; simp [*]
        have HLF := Lib.hid HLF
        cases hh : s.hasHi
        · rw [hh] at s6
          go_wp2_with (fail)
          go_ret
          exact ⟨by unfold spanIn; rw [HN.out, HLF.out, HHI.out]; simp [*], HK2.out⟩
        · rw [hh] at s6
          rcases hd3 with rfl | rfl | rfl
          · skip
            go_wp2_with (fail)
            go_ret
            exact ⟨by unfold spanIn; rw [HN.out, HLF.out, HHI.out]; simp [*], HK2.out⟩
          · cases ho : s.openHi
            · rw [ho] at s7
              go_wp2_with (fail)
              go_ret
              exact ⟨by unfold spanIn; rw [HN.out, HLF.out, HHI.out]; simp [*], HK2.out⟩
            · rw [ho] at s7
              go_wp2_with (fail)
              go_ret
              exact ⟨by unfold spanIn; rw [HN.out, HLF.out, HHI.out]; simp [*], HK2.out⟩
          · skip
            go_wp2_with (fail)
            go_ret
            exact ⟨by unfold spanIn; rw [HN.out, HLF.out, HHI.out]; simp [*], HK2.out⟩
  · rw [hn] at s0
    have HIN := Lib.hid (show spanIn s x = false by unfold spanIn; rw [hn]; rfl)
    go_wp2_with (fail)
    go_ret
    exact ⟨by rw [HIN.out]; rfl, HK0.out⟩
end Go.Proofs.Ytcbklkcpjldcjaa
