/- Joined texts: The document's answer: Compare (ratlineref01; the text of the Tree). The document's answer: whether a part about a column holds (ratlineref03.leaf). The document's answer: whether a predicate holds of a row (ratlineref03.Holds). (printed by genref3h.py) -/
import Derived.Test.YtgljdkjepdknnaaGreatDoorMR8
import Derived.Test.YtgljdkjepdknnaaGreatDoorMR9
import Derived.Test.YtgljdkjepdknnaaGreatDoorMR10
/- The document's answer: Compare (ratlineref01; the text of the Tree). -/
namespace Go.Proofs.YtgljdkjepdknnaaGreatDoor
open Go.ChangeShapes Go.WideShapes Go.ChangeAt Go.RowKit
set_option maxRecDepth 100000
set_option linter.unusedSimpArgs false

theorem bl_asymm : ∀ (x y : List UInt8), Op.bytesLess x y = true → Op.bytesLess y x = false
 | _, [], h => by simp [Op.bytesLess] at h
 | [], _ :: _, _ => by simp [Op.bytesLess]
 | a :: x, b :: y, h => by
  simp only [Op.bytesLess, Bool.or_eq_true, Bool.and_eq_true, decide_eq_true_eq, beq_iff_eq] at h
  simp only [Op.bytesLess, Bool.or_eq_false_iff, Bool.and_eq_false_iff, decide_eq_false_iff_not, beq_eq_false_iff_ne]
  rw [UInt8.lt_iff_toNat_lt] at *
  rcases h with h | ⟨rfl, h⟩
  ·exact ⟨by omega, .inl (fun e => by subst e; omega)⟩
  ·exact ⟨by omega, .inr (bl_asymm x y h)⟩
theorem bl_total : ∀ (x y : List UInt8), Op.bytesLess x y = false → Op.bytesLess y x = false → x = y
 | [], [], _, _ => rfl
 | [], _ :: _, h, _ => by simp [Op.bytesLess] at h
 | _ :: _, [], _, h => by simp [Op.bytesLess] at h
 | a :: x, b :: y, h, h' => by
  simp only [Op.bytesLess, Bool.or_eq_false_iff, Bool.and_eq_false_iff, decide_eq_false_iff_not, beq_eq_false_iff_ne] at h h'
  rw [UInt8.lt_iff_toNat_lt] at *
  obtain rfl : a = b := UInt8.toNat_inj.1 (by omega)
  rcases h.2 with h2 | h2
  ·exact absurd rfl h2
  ·rcases h'.2 with h3 | h3
   ·exact absurd rfl h3
   ·rw [bl_total x y h2 h3]
theorem cmpS_swap (a b : ByteArray) : cmpS b a = - cmpS a b := by
 unfold cmpS
 cases h1 : Op.bytesLess a.toList b.toList
 ·cases h2 : Op.bytesLess b.toList a.toList
  ·have := bl_total _ _ h1 h2
   simp [this]
  ·have : ¬ (a.toList == b.toList) = true := fun e => by
    have := eq_of_beq e
    rw [this] at h1 h2
    rw [h1] at h2; cases h2
   simp [this]
 ·have h2 := bl_asymm _ _ h1
  have : ¬ (b.toList == a.toList) = true := fun e => by
   have := eq_of_beq e
   rw [this] at h1 h2
   rw [h1] at h2; cases h2
  simp [h2, this]
theorem bl_pre : ∀ (k : Nat) (xs ys : List UInt8), xs.take k = ys.take k → k ≤ xs.length → k ≤ ys.length → Op.bytesLess xs ys = Op.bytesLess (xs.drop k) (ys.drop k)
 | 0, _, _, _, _, _ => rfl
 | k + 1, [], _, _, h, _ => by simp at h
 | k + 1, _ :: _, [], _, _, h => by simp at h
 | k + 1, x :: xs, y :: ys, h, h1, h2 => by
  simp only [List.take_succ_cons, List.cons.injEq] at h
  obtain ⟨rfl, h⟩ := h
  have := bl_pre k xs ys h (by simpa using h1) (by simpa using h2)
  simp only [List.drop_succ_cons]
  rw [← this]
  simp [Op.bytesLess]
theorem bl_irrefl : ∀ (xs : List UInt8), Op.bytesLess xs xs = false
 | [] => rfl
 | x :: xs => by simp [Op.bytesLess, bl_irrefl xs]
theorem cmp_at_lt {xs ys : List UInt8} {k : Nat} {x y : UInt8} (h : xs.take k = ys.take k) (hx : xs[k]? = some x) (hy : ys[k]? = some y) (hlt : x < y) : Op.bytesLess xs ys = true := by
 have h1 := (List.getElem?_eq_some_iff.1 hx).1
 have h2 := (List.getElem?_eq_some_iff.1 hy).1
 rw [bl_pre k xs ys h (by omega) (by omega), List.drop_eq_getElem_cons h1, List.drop_eq_getElem_cons h2]
 rw [List.getElem?_eq_getElem h1] at hx
 rw [List.getElem?_eq_getElem h2] at hy
 rw [Option.some.inj hx, Option.some.inj hy]
 simp [Op.bytesLess, hlt]
theorem cmpS_val (a b : ByteArray) : cmpS a b = if Op.bytesLess a.data.toList b.data.toList then -1 else if a.data.toList = b.data.toList then 0 else 1 := by
 unfold cmpS
 rw [ByteArray.toList_eq, ByteArray.toList_eq]
 by_cases h : a.data.toList = b.data.toList
 ·rw [h]; simp
 ·rw [beq_eq_false_iff_ne.2 h, if_neg h]; rfl
theorem cmpS_lt {a b : ByteArray} {k : Nat} {x y : UInt8} (h : a.data.toList.take k = b.data.toList.take k) (hx : a.data.toList[k]? = some x) (hy : b.data.toList[k]? = some y) (hlt : x < y) : cmpS a b = -1 := by
 rw [cmpS_val, cmp_at_lt h hx hy hlt, if_pos rfl]
theorem cmpS_gt {a b : ByteArray} {k : Nat} {x y : UInt8} (h : a.data.toList.take k = b.data.toList.take k) (hx : a.data.toList[k]? = some x) (hy : b.data.toList[k]? = some y) (hlt : y < x) : cmpS a b = 1 := by
 rw [cmpS_swap b a, cmpS_lt h.symm hy hx hlt]; rfl
theorem cmpS_short {a b : ByteArray} (h : a.data.toList.take a.size = b.data.toList.take a.size) (hl : a.size < b.size) : cmpS a b = -1 := by
 have e1 : a.data.toList.length = a.size := by cases a; rfl
 have e2 : b.data.toList.length = b.size := by cases b; rfl
 rw [cmpS_val, bl_pre a.size _ _ h (by omega) (by omega), List.drop_of_length_le (by omega), List.drop_eq_getElem_cons (by omega)]
 rfl
theorem cmpS_long {a b : ByteArray} (h : a.data.toList.take b.size = b.data.toList.take b.size) (hl : b.size < a.size) : cmpS a b = 1 := by
 rw [cmpS_swap b a, cmpS_short h.symm hl]; rfl
theorem cmpS_same {a b : ByteArray} (h : a.data.toList.take a.size = b.data.toList.take a.size) (hl : a.size = b.size) : cmpS a b = 0 := by
 have e1 : a.data.toList.length = a.size := by cases a; rfl
 have e2 : b.data.toList.length = b.size := by cases b; rfl
 rw [List.take_of_length_le (by omega), List.take_of_length_le (by omega)] at h
 rw [cmpS_val, h, bl_irrefl]; simp

/-- a value that fits -/
def Val.fits (v : Val) : Prop := v.s.size ≤ maxLen

set_option maxHeartbeats 4000000 in
theorem rcmp_ok (a b : Val) (ha : a.fits) (hb : b.fits) (w : World) : Calls Tryz.prog 187 #[a.v, b.v] w fun e w' => e = .returned (.int .i64 (valCmp a b)) ∧ Kept (fun _ => False) w w' := by
 obtain ⟨at_, an, sa⟩ := a
 obtain ⟨bt, bn, sb⟩ := b
 unfold Val.fits maxLen at ha hb
 dsimp only at ha hb
 obtain ⟨w1, hw1⟩ : ∃ w1, w1 = w.alloc (.cells #[.bool at_, .int .i64 an, .string sa] 31) := ⟨_, rfl⟩
 obtain ⟨w2, hw2⟩ : ∃ w2, w2 = w1.alloc (.cells #[.bool bt, .int .i64 bn, .string sb] 31) := ⟨_, rfl⟩
 have hk1 : Kept (fun _ => False) w w1 := by rw [hw1]; exact (Kept.refl _ _).alloc _
 have hk2 : Kept (fun _ => False) w1 w2 := by rw [hw2]; exact (Kept.refl _ _).alloc _
 have hb1 : w1.heap[w.heap.size]? = some (.cells #[.bool at_, .int .i64 an, .string sa] 31 (0, 0)) := by rw [hw1]; exact heap_alloc_self w _
 have hb2 : w2.heap[w1.heap.size]? = some (.cells #[.bool bt, .int .i64 bn, .string sb] 31 (0, 0)) := by rw [hw2]; exact heap_alloc_self w1 _
 have hsz : w1.heap.size = w.heap.size + 1 := by rw [hw1]; simp
 have HK := Lib.hid (hk1.trans hk2 (fun _ h => h.elim))
 have HA := Lib.hid ((hk2.block _ (lt_of_heap hb1) (fun h => h)).trans hb1)
 have HB := Lib.hid hb2
 have HW := Lib.hid (And.intro hw1 (And.intro hw2 hsz))
 clear hk1 hk2 hb1 hb2 hsz hw1 hw2
 dsimp only [Val.v]
 go_enter Tryz.func187, Tryz.ntmps187
 go_upto_region 1 with (fail)
 rw [← HW.out.1, ← HW.out.2.1]
 rw [HW.out.2.2] at HB
 clear HW
 revert HA HB
 generalize w.heap.size = ba
 intro HA HB
 obtain ⟨x0, x1, x2, xf⟩ := cells3 HA.out
 obtain ⟨y0, y1, y2, yf⟩ := cells3 HB.out
 rcases (show at_ = false ∨ at_ = true by cases at_ <;> simp) with rfl | rfl <;> rcases (show bt = false ∨ bt = true by cases bt <;> simp) with rfl | rfl
 ·by_cases h1 : an < bn
  ·go_wp2_with fail
   go_ret
   exact ⟨by simp [valCmp, cmpI, h1], HK.out⟩
  ·by_cases h2 : bn < an
   ·go_wp2_with fail
    go_ret
    exact ⟨by simp [valCmp, cmpI, h1, h2], HK.out⟩
   ·have HV := Lib.hid (show valCmp ⟨false, an, sa⟩ ⟨false, bn, sb⟩ = 0 by simp [valCmp, cmpI, h1, h2])
    go_wp2_with fail
    go_ret
    exact ⟨by rw [HV.out]; rfl, HK.out⟩
 ·go_wp2_with fail
  go_ret
  exact ⟨by simp [valCmp], HK.out⟩
 ·go_wp2_with fail
  go_ret
  exact ⟨by simp [valCmp], HK.out⟩
 ·have e1 : sa.data.toList.length = sa.size := by cases sa; rfl
  have e2 : sb.data.toList.length = sb.size := by cases sb; rfl
  have HE1 := Lib.hid e1
  have HE2 := Lib.hid e2
  have HC := Lib.hid (show valCmp ⟨true, an, sa⟩ ⟨true, bn, sb⟩ = cmpS sa sb by simp [valCmp])
  clear e1 e2
  generalize hna : sa.size = na at ha
  generalize hnb : sb.size = nb at hb
  go_wp2_with fail
  go_loopw [5] (fun i wr => ∃ j : Nat, i = .int .i64 j ∧ j ≤ na ∧ j ≤ nb ∧ sa.data.toList.take j = sb.data.toList.take j ∧ ∃ n, wr = w2.drewN n) (fun i _ => na - (intOf i).toNat)
  case atStart => exact ⟨0, rfl, by omega, by omega, rfl, 0, rfl⟩
  case round =>
   obtain ⟨j, rfl, hj1, hj2, hte, n0, rfl⟩ := hrel
   have HT := Lib.hid hte
   clear hte
   by_cases hlt : j < na ∧ j < nb
   ·obtain ⟨g1, g2⟩ := hlt
    have i1 : (j : Int) < (na : Int) := by omega
    have i2 : (j : Int) < (nb : Int) := by omega
    have s1 : j < sa.size := by omega
    have s2 : j < sb.size := by omega
    obtain ⟨x, hx⟩ : ∃ x, sa.data.toList[j]? = some x := ⟨_, List.getElem?_eq_getElem (by have := HE1.out; omega)⟩
    obtain ⟨y, hy⟩ : ∃ y, sb.data.toList[j]? = some y := ⟨_, List.getElem?_eq_getElem (by have := HE2.out; omega)⟩
    have hx2 : sa[j] = x := by
     have : sa.data.toList[j]? = some sa[j] := by
      cases sa; rw [Array.getElem?_toList]; exact Array.getElem?_eq_getElem s1
     rw [hx] at this; exact (Option.some.inj this).symm
    have hy2 : sb[j] = y := by
     have : sb.data.toList[j]? = some sb[j] := by
      cases sb; rw [Array.getElem?_toList]; exact Array.getElem?_eq_getElem s2
     rw [hy] at this; exact (Option.some.inj this).symm
    have HX := Lib.hid hx
    have HY := Lib.hid hy
    clear hx hy
    rcases (show x < y ∨ y < x ∨ x = y by
     rcases Nat.lt_trichotomy x.toNat y.toNat with h | h | h
     ·exact .inl h
     ·exact .inr (.inr (UInt8.toNat_inj.1 h))
     ·exact .inr (.inl h)) with hxy | hxy | rfl
    ·have HR := Lib.hid (cmpS_lt HT.out HX.out HY.out hxy)
     have q1 : (x.toNat : Int) < (y.toNat : Int) := by have : x.toNat < y.toNat := hxy; omega
     go_wp2_with fail
     go_quiet (fail)
     go_wp2_with fail
     go_ret
     exact ⟨by rw [HC.out, HR.out]; rfl, (HK.out.drewN _).drewN _⟩
    ·have HR := Lib.hid (cmpS_gt HT.out HX.out HY.out hxy)
     have q1 : (y.toNat : Int) < (x.toNat : Int) := by have : y.toNat < x.toNat := hxy; omega
     have q2 : ¬ (x.toNat : Int) < (y.toNat : Int) := by omega
     go_wp2_with fail
     go_quiet (fail)
     go_wp2_with fail
     go_quiet (fail)
     go_wp2_with fail
     go_ret
     exact ⟨by rw [HC.out, HR.out]; rfl, ((HK.out.drewN _).drewN _).drewN _⟩
    ·have q1 : ¬ (x.toNat : Int) < (x.toNat : Int) := by omega
     go_wp2_with fail
     go_quiet (fail)
     go_wp2_with fail
     go_quiet (fail)
     go_wp2_with fail
     go_roundw
     case rel => exact ⟨j + 1, by go_num, by omega, by omega, take_succ_eq HT.out HX.out HY.out, _, rfl⟩
     case measure => simp [intOf]; omega
   ·have HS := Lib.hid (show cmpS sa sb = if na < nb then -1 else if nb < na then 1 else 0 by
     have ht := HT.out
     by_cases h1 : na < nb
     ·rw [if_pos h1]
      exact cmpS_short (by rw [hna, show na = j by omega]; exact ht) (by omega)
     ·rw [if_neg h1]
      by_cases h2 : nb < na
      ·rw [if_pos h2]
       exact cmpS_long (by rw [hnb, show nb = j by omega]; exact ht) (by omega)
      ·rw [if_neg h2]
       exact cmpS_same (by rw [hna, show na = j by omega]; exact ht) (by omega))
    by_cases h1 : na < nb
    ·have q1 : (na : Int) < (nb : Int) := by omega
     have hcut : ¬ (j : Int) < (na : Int) := by omega
     go_wp2_with fail
     go_ret
     exact ⟨by rw [HC.out, HS.out, if_pos h1]; rfl, HK.out.drewN _⟩
    ·by_cases h2 : nb < na
     ·have q1 : ¬ (na : Int) < (nb : Int) := by omega
      have q2 : (nb : Int) < (na : Int) := by omega
      have hc1 : (j : Int) < (na : Int) := by omega
      have hcut : ¬ (j : Int) < (nb : Int) := by omega
      go_wp2_with fail
      go_ret
      exact ⟨by rw [HC.out, HS.out, if_neg h1, if_pos h2]; rfl, HK.out.drewN _⟩
     ·have q1 : ¬ (na : Int) < (nb : Int) := by omega
      have q2 : ¬ (nb : Int) < (na : Int) := by omega
      have hcut : ¬ (j : Int) < (na : Int) := by omega
      go_wp2_with fail
      go_ret
      exact ⟨by rw [HC.out, HS.out, if_neg h1, if_neg h2]; rfl, HK.out.drewN _⟩
end Go.Proofs.YtgljdkjepdknnaaGreatDoor

/- The document's answer: whether a part about a column holds (ratlineref03.leaf). -/
namespace Go.Proofs.YtgljdkjepdknnaaGreatDoor
open Go.ChangeShapes Go.WideShapes Go.ChangeAt Go.RowKit
set_option maxRecDepth 100000
set_option linter.unusedSimpArgs false

set_option maxHeartbeats 8000000 in
theorem rleaf_ok {w : World} (x : PredE) {rv : Value} {r : List Val} (hfv : x.v.fits) (hfw : x.w.fits) (hfr : ∀ v ∈ r, v.fits) (hr : RowRd w rv r) : Calls Tryz.prog 157 #[.agg x.cells.toArray, rv] w fun e w' => e = .returned (.bool (leafT x.op x.col x.v x.w r)) ∧ Kept (fun _ => False) w w' := by
 obtain ⟨W1, hW1, hk1, hb1⟩ : ∃ W, W = w.alloc (.cells x.cells.toArray tPr) ∧ Kept (fun _ => False) w W ∧ W.heap[w.heap.size]? = some (.cells x.cells.toArray tPr (0, 0)) := ⟨_, rfl, (Kept.refl _ _).alloc _, heap_alloc_self _ _⟩
 have HRD := Lib.hid (hr.kept hk1 (fun _ _ h => h))
 obtain ⟨_, hml, ra, rc, rfl, hnc, hcm, _⟩ := id hr
 unfold maxLen at hml hcm
 have HW1 := Lib.hid hW1
 have HK1 := Lib.hid hk1
 have HB1 := Lib.hid hb1
 have HFV := Lib.hid hfv
 have HFW := Lib.hid hfw
 clear hr hW1 hk1 hb1 hfv hfw
 by_cases c1 : x.col < 0
 ·have HR := Lib.hid (show leafT x.op x.col x.v x.w r = false by unfold leafT; rw [if_pos (.inl c1)])
  go_enter Tryz.func157, Tryz.ntmps157
  go_upto_region 1 with fail
  rw [← HW1.out]
  clear HW1
  generalize w.heap.size = b1 at HB1 ⊢
  obtain ⟨x0, x1, x2, x3, x4, x5, x6, x7, x8⟩ := boxPr HB1.out
  go_wp2_with fail
  go_ret
  exact ⟨by rw [HR.out]; rfl, HK1.out⟩
 by_cases c2 : (r.length : Int) ≤ x.col
 ·have HR := Lib.hid (show leafT x.op x.col x.v x.w r = false by unfold leafT; rw [if_pos (.inr c2)])
  have c2' : x.col ≥ (r.length : Int) := c2
  go_enter Tryz.func157, Tryz.ntmps157
  go_upto_region 1 with fail
  rw [← HW1.out]
  clear HW1
  generalize w.heap.size = b1 at HB1 ⊢
  obtain ⟨x0, x1, x2, x3, x4, x5, x6, x7, x8⟩ := boxPr HB1.out
  go_wp2_with fail
  go_ret
  exact ⟨by rw [HR.out]; rfl, HK1.out⟩
 obtain ⟨k, hk⟩ : ∃ k : Nat, x.col = (k : Int) := ⟨x.col.toNat, by omega⟩
 have hkl : k < r.length := by omega
 have hkl2 : (k : Int) < (r.length : Int) := by omega
 have hkn : ¬ ((k : Int) ≥ (r.length : Int)) := by omega
 obtain ⟨y, hy⟩ : ∃ y, r[k]? = some y := ⟨r[k], List.getElem?_eq_getElem hkl⟩
 have HFY := Lib.hid (hfr y (List.mem_of_getElem? hy))
 obtain ⟨g, og, rfl⟩ : ∃ g o, ra = some ⟨g, o, none⟩ := by
  rcases HRD.out.2.2 with ⟨_, _, hv, _, _, _, hc⟩
  cases hv
  rcases hc with h0 | ⟨g, o, h, _⟩
  ·omega
  ·exact ⟨g, o, h⟩
 have HCK := Lib.hid hk
 have HY := Lib.hid hy
 obtain ⟨c, hc⟩ : ∃ c, valCmp y x.v = c := ⟨_, rfl⟩
 obtain ⟨d, hd⟩ : ∃ d, valCmp y x.w = d := ⟨_, rfl⟩
 have HLF := Lib.hid (show leafT x.op x.col x.v x.w r = (if x.op = 3 then decide (c = 0) else if x.op = 4 then !decide (c = 0) else if x.op = 5 then decide (c < 0) else if x.op = 6 then decide (c ≤ 0) else if x.op = 7 then decide (0 < c) else if x.op = 8 then decide (0 ≤ c) else decide (0 ≤ c) && decide (d ≤ 0)) by
  unfold leafT
  rw [if_neg (by omega)]
  have : r.getD x.col.toNat default = y := by rw [hk, Int.toNat_natCast, List.getD_eq_getElem?_getD, hy]; rfl
  simp only [this, hc, hd])
 have HCV := Lib.hid (show ∀ W, Calls Tryz.prog 187 #[y.v, x.v.v] W fun e w' => e = .returned (.int .i64 c) ∧ Kept (fun _ => False) W w' from fun W => hc ▸ rcmp_ok y x.v HFY.out HFV.out W)
 have HCW := Lib.hid (show ∀ W, Calls Tryz.prog 187 #[y.v, x.w.v] W fun e w' => e = .returned (.int .i64 d) ∧ Kept (fun _ => False) W w' from fun W => hd ▸ rcmp_ok y x.w HFY.out HFW.out W)
 clear c1 c2 hk hy hc hd hkl hfr HFY HFV HFW
 go_enter Tryz.func157, Tryz.ntmps157
 go_upto_region 1 with fail
 rw [← HW1.out]
 clear HW1
 generalize w.heap.size = b1 at HB1 ⊢
 obtain ⟨x0, x1, x2, x3, x4, x5, x6, x7, x8⟩ := boxPr HB1.out
 rw [HCK.out] at x1
 obtain ⟨y0, y1, y2⟩ := rowAt HRD.out HY.out
 go_upto_region 4 with fail
 obtain ⟨W2, hW2, hk2, hb2⟩ : ∃ W, W = W1.alloc (.cells #[.bool y.t, .int .i64 y.n, .string y.s] 31) ∧ Kept (fun _ => False) W1 W ∧ W.heap[W1.heap.size]? = some (.cells #[.bool y.t, .int .i64 y.n, .string y.s] 31 (0, 0)) := ⟨_, rfl, (Kept.refl _ _).alloc _, heap_alloc_self _ _⟩
 rw [← hW2]
 have HK2 := Lib.hid (HK1.out.trans hk2 (fun _ h => h.elim))
 have HBX := Lib.hid (kept_blk hk2 HB1.out)
 have HBY := Lib.hid hb2
 clear hW2 hk2 hb2 x0 x1 x2 x3 x4 x5 x6 x7 x8 y0 y1 y2 HB1 HK1 HRD
 generalize W1.heap.size = b3 at *
 obtain ⟨x0, x1, x2, x3, x4, x5, x6, x7, x8⟩ := boxPr HBX.out
 obtain ⟨y0, y1, y2, _⟩ := cells3 HBY.out
 have HC2 := Lib.hid (HCV.out W2)
 go_upto_region 5 with (go_at_call 187; refine HC2.out.mono ?_; rintro e2 w2 ⟨rfl, hk2⟩; have HK3 := Lib.hid hk2; clear hk2 HC2 x0 x1 x2 x3 x4 x5 x6 x7 x8 y0 y1 y2)
 obtain ⟨x0, x1, x2, x3, x4, x5, x6, x7, x8⟩ := boxPr (kept_blk HK3.out HBX.out)
 obtain ⟨y0, y1, y2, _⟩ := cells3 (kept_blk HK3.out HBY.out)
 have HKE := Lib.hid (HK2.out.trans HK3.out (fun _ h => h.elim))
 clear HK2 HK3 HBX HBY HCV
 by_cases p3 : x.op = 3
 ·have HO := Lib.hid p3
  clear p3
  rw [HO.out] at x0
  go_wp2_with fail
  go_ret
  exact ⟨by rw [HLF.out, HO.out]; simp [bne, Int.not_lt, beq_iff_eq]; try rfl, HKE.out⟩
 by_cases p4 : x.op = 4
 ·have HO := Lib.hid p4
  clear p3 p4
  rw [HO.out] at x0
  go_wp2_with fail
  go_ret
  exact ⟨by rw [HLF.out, HO.out]; simp [bne, Int.not_lt, beq_iff_eq]; try rfl, HKE.out⟩
 by_cases p5 : x.op = 5
 ·have HO := Lib.hid p5
  clear p3 p4 p5
  rw [HO.out] at x0
  go_wp2_with fail
  go_ret
  exact ⟨by rw [HLF.out, HO.out]; simp [bne, Int.not_lt, beq_iff_eq]; try rfl, HKE.out⟩
 by_cases p6 : x.op = 6
 ·have HO := Lib.hid p6
  clear p3 p4 p5 p6
  rw [HO.out] at x0
  go_wp2_with fail
  go_ret
  exact ⟨by rw [HLF.out, HO.out]; simp [bne, Int.not_lt, beq_iff_eq]; try rfl, HKE.out⟩
 by_cases p7 : x.op = 7
 ·have HO := Lib.hid p7
  clear p3 p4 p5 p6 p7
  rw [HO.out] at x0
  go_wp2_with fail
  go_ret
  exact ⟨by rw [HLF.out, HO.out]; simp [bne, Int.not_lt, beq_iff_eq]; try rfl, HKE.out⟩
 by_cases p8 : x.op = 8
 ·have HO := Lib.hid p8
  clear p3 p4 p5 p6 p7 p8
  rw [HO.out] at x0
  go_wp2_with fail
  go_ret
  exact ⟨by rw [HLF.out, HO.out]; simp [bne, Int.not_lt, beq_iff_eq]; try rfl, HKE.out⟩
 have n3 : (x.op == 3) = false := by simpa using p3
 have n4 : (x.op == 4) = false := by simpa using p4
 have n5 : (x.op == 5) = false := by simpa using p5
 have n6 : (x.op == 6) = false := by simpa using p6
 have n7 : (x.op == 7) = false := by simpa using p7
 have n8 : (x.op == 8) = false := by simpa using p8
 have HR := Lib.hid (show leafT x.op x.col x.v x.w r = (decide (0 ≤ c) && decide (d ≤ 0)) by rw [HLF.out, if_neg p3, if_neg p4, if_neg p5, if_neg p6, if_neg p7, if_neg p8])
 clear p3 p4 p5 p6 p7 p8
 by_cases hc0 : 0 ≤ c
 ·have hc1 : c ≥ 0 := hc0
  have HC3 := Lib.hid (HCW.out w2)
  go_wp2_with (go_at_call 187; refine HC3.out.mono ?_; rintro e3 w3 ⟨rfl, hk3⟩; have HK3 := Lib.hid (HKE.out.trans hk3 (fun _ h => h.elim)); clear hk3 HC3)
  go_ret
  exact ⟨by rw [HR.out]; simp [hc0], HK3.out⟩
 ·have hc1 : ¬ c ≥ 0 := hc0
  go_wp2_with fail
  go_ret
  exact ⟨by rw [HR.out, decide_eq_false (Int.not_le.mpr hc0)]; rfl, HKE.out⟩
end Go.Proofs.YtgljdkjepdknnaaGreatDoor

/- The document's answer: whether a predicate holds of a row (ratlineref03.Holds). (printed by genref3h.py) -/
namespace Go.Proofs.YtgljdkjepdknnaaGreatDoor
open Go.ChangeShapes Go.WideShapes Go.ChangeAt Go.RowKit
set_option maxRecDepth 100000
set_option linter.unusedSimpArgs false

/-- all strings of a predicate fit -/
inductive PredFit : PredT → Prop
 | mk (op col : Int) (v w : Val) (l : List PredT) (hv : v.fits) (hw : w.fits) (hl : ∀ q ∈ l, PredFit q) : PredFit (.mk op col v w l)
/-- what the function asks of a part -/
def RHoldsC (w : World) (rv : Value) (e : PredE) (p : Bool) : Prop := ∀ W, Kept (fun _ => False) w W → Calls Tryz.prog 113 #[.agg e.cells.toArray, rv] W fun r W' => r = .returned (.bool p) ∧ Kept (fun _ => False) W W'
def allT (l : List Bool) : Bool := l.all id
def anyT (l : List Bool) : Bool := l.any id
def firstT (l : List Bool) : Bool := l.headD false
theorem allT_snoc (l : List Bool) (b : Bool) : allT (l ++ [b]) = (allT l && b) := by unfold allT; simp
theorem anyT_snoc (l : List Bool) (b : Bool) : anyT (l ++ [b]) = (anyT l || b) := by unfold anyT; simp
theorem take_snoc {l : List Bool} {j : Nat} {b : Bool} (h : l[j]? = some b) : l.take (j + 1) = l.take j ++ [b] := by rw [List.take_add_one, h]; rfl
set_option maxHeartbeats 8000000 in
theorem rHolds_ok : ∀ (p : PredT) (x : PredE) (w : World) (rv : Value) (r : List Val), x.p = p → PredFit p → (∀ v ∈ r, v.fits) → PredsRd w (.slice x.la x.ln x.lc) x.subs → RowRd w rv r →
  Calls Tryz.prog 113 #[.agg x.cells.toArray, rv] w fun e w' => e = .returned (.bool (x.p.holds r)) ∧ Kept (fun _ => False) w w' := by
 refine PredT.ind fun op col v w0 l ih x w rv r hx hfit hfr h1 h2 => ?_
 have hl : x.subs = l := by unfold PredE.p at hx; cases hx; rfl
 have hxv : x.v = v := by unfold PredE.p at hx; cases hx; rfl
 have hxw : x.w = w0 := by unfold PredE.p at hx; cases hx; rfl
 obtain ⟨hfv, hfw, hfl⟩ : v.fits ∧ w0.fits ∧ ∀ q ∈ l, PredFit q := by cases hfit with | mk _ _ _ _ _ a b c => exact ⟨a, b, c⟩
 rw [← hxv] at hfv
 rw [← hxw] at hfw
 obtain ⟨ra, rn, rc, rfl⟩ : ∃ a n c, rv = .slice a n c := by obtain ⟨_, _, a, c, h, _⟩ := h2; exact ⟨a, _, c, h⟩
 obtain ⟨W1, hW1, hk1, hb1⟩ : ∃ W, W = w.alloc (.cells x.cells.toArray tPr) ∧ Kept (fun _ => False) w W ∧ W.heap[w.heap.size]? = some (.cells x.cells.toArray tPr (0, 0)) := ⟨_, rfl, (Kept.refl _ _).alloc _, heap_alloc_self _ _⟩
 obtain ⟨es, he, hsub, hes⟩ : ∃ es : List PredE, Rd W1 9 (.slice x.la x.ln x.lc) es.length (es.flatMap PredE.cells) ∧ x.subs = es.map PredE.p ∧ ∀ e ∈ es, RHoldsC W1 (.slice ra rn rc) e (e.p.holds r) := by
  have k1 := h1.kept hk1
  have hr1 := h2.kept hk1 (fun _ _ h => h)
  generalize hxs : x.subs = xs at k1 hl
  cases k1 with
  | mk _ es he hes =>
   refine ⟨es, he, rfl, fun e hee W hW => ?_⟩
   have hm : e.p ∈ l := by rw [← hl]; exact List.mem_map.2 ⟨e, hee, rfl⟩
   exact ih e.p hm e W _ r rfl (hfl _ hm) hfr ((hes e hee).kept hW) (hr1.kept hW (fun _ _ h => h))
 have HP := Lib.hid (show x.p.holds r = _ from PredT.holds_eq x.op x.col x.v x.w x.subs r)
 rw [hsub] at HP
 have HR1 := Lib.hid (h2.kept hk1 (fun _ _ h => h))
 have HW1 := Lib.hid hW1
 have HK1 := Lib.hid hk1
 have HB1 := Lib.hid hb1
 obtain ⟨_, hml, _, _, hsl, _⟩ := id he
 unfold maxLen at hml
 have HLN := Lib.hid (Value.slice.inj hsl).2.1
 have HE := Lib.hid he
 have HES := Lib.hid hes
 have HLF := Lib.hid (rleaf_ok (w := W1) x hfv hfw hfr HR1.out)
 clear h1 h2 hW1 hk1 hb1 hx hl ih he hes hsub hsl hfit hfv hfw hfl hxv hxw hfr HR1
 obtain ⟨bs, hbs⟩ : ∃ bs : List Bool, bs = es.map (fun e => e.p.holds r) := ⟨_, rfl⟩
 have HBS := Lib.hid hbs
 have HP2 := Lib.hid (show x.p.holds r = if x.op = 1 then true else if 3 ≤ x.op ∧ x.op ≤ 9 then leafT x.op x.col x.v x.w r else if x.op = 10 then !(firstT bs) else if x.op = 11 then allT bs else if x.op = 12 then anyT bs else false by
  rw [HP.out, hbs]
  unfold firstT allT anyT
  simp only [List.map_map, List.all_map, List.any_map, Function.comp_def, id])
 clear hbs HP
 go_enter Tryz.func113, Tryz.ntmps113
 go_upto_region 1 with fail
 rw [← HW1.out]
 clear HW1
 generalize w.heap.size = b1 at HB1 ⊢
 obtain ⟨x0, x1, x2, x3, x4, x5, x6, x7, x8⟩ := boxPr HB1.out
 by_cases o2 : 3 ≤ x.op ∧ x.op ≤ 9
 ·have HL := Lib.hid (loadPr (blk_range HB1.out))
  have HR := Lib.hid (show x.p.holds r = leafT x.op x.col x.v x.w r by rw [HP2.out, if_neg (by omega), if_pos o2])
  have g1 : x.op ≥ 3 := o2.1
  have g2 := o2.2
  clear HP2 HES HE
  go_wp2_with (first | (refine wpList_ld rfl _ _ rfl _ _ rfl _ HL.out ?_) | (go_at_call 157; refine HLF.out.mono ?_; rintro e1 w1 ⟨rfl, hk2⟩; have HK2 := Lib.hid (HK1.out.trans hk2 (fun _ h => h.elim)); clear hk2 HLF HL x0 x1 x2 x3 x4 x5 x6 x7 x8))
  go_ret
  exact ⟨by rw [HR.out]; rfl, HK2.out⟩
 have HO2 := Lib.hid o2
 clear HLF
 obtain ⟨N, hN⟩ : ∃ N, es.length = N := ⟨_, rfl⟩
 have HN := Lib.hid hN
 rw [hN] at HLN HE hml
 have HBL := Lib.hid (show bs.length = N by rw [HBS.out, List.length_map, hN])
 clear hN
 have g : ¬ (x.op ≥ 3 ∧ x.op ≤ 9) := o2
 rcases (show x.op < 3 ∨ (x.op ≥ 3 ∧ 9 < x.op) by omega) with g1 | ⟨g1, g2⟩
 all_goals
  clear g o2
  rw [HLN.out] at x8
  go_wp2_with fail
  go_loopw [5, 6, 7, 8] (fun a s f i wr => ∃ j : Nat, i = .int .i64 j ∧ a = .bool (allT (bs.take j)) ∧ s = .bool (anyT (bs.take j)) ∧ f = .bool (firstT (bs.take j)) ∧ j ≤ N ∧ Kept (fun _ => False) W1 wr) (fun _ _ _ i _ => N - (intOf i).toNat)
  case atStart => exact ⟨0, rfl, rfl, rfl, rfl, by omega, Kept.refl _ _⟩
  case round =>
   obtain ⟨j, rfl, rfl, rfl, rfl, hj, hk⟩ := hrel
   have HK := Lib.hid hk
   clear hk x0 x1 x2 x3 x4 x5 x6 x7 x8
   obtain ⟨x0, _, _, _, _, _, _, _, x8⟩ := boxPr (kept_blk HK.out HB1.out)
   rw [HLN.out] at x8
   by_cases hlt : j < N
   ·have hji : (j : Int) < (N : Int) := by omega
    obtain ⟨e, he⟩ : ∃ e, es[j]? = some e := ⟨es[j]'(by rw [HN.out]; exact hlt), List.getElem?_eq_getElem _⟩
    obtain ⟨g1, o1, hg1, hr1⟩ := elem_range PredE.len (by have := HE.out.kept HK.out (fun _ _ h => h); rw [HLN.out] at this; exact this) he HN.out
    rw [hg1] at x8
    have HL1 := Lib.hid (loadPr (w := wr) hr1)
    have HC := Lib.hid (HES.out e (List.mem_of_getElem? he) wr HK.out)
    obtain ⟨b, hb⟩ : ∃ b, e.p.holds r = b := ⟨_, rfl⟩
    rw [hb] at HC
    have hbj : bs[j]? = some b := by rw [HBS.out, List.getElem?_map, he, ← hb]; rfl
    have HA := Lib.hid (show allT (bs.take (j + 1)) = (allT (bs.take j) && b) by rw [take_snoc hbj, allT_snoc])
    have HY := Lib.hid (show anyT (bs.take (j + 1)) = (anyT (bs.take j) || b) by rw [take_snoc hbj, anyT_snoc])
    have HF := Lib.hid (show firstT (bs.take (j + 1)) = if j = 0 then b else firstT (bs.take j) by
     rw [take_snoc hbj]
     rcases j with _ | j
     ·rfl
     ·rcases bs with _ | ⟨b0, bs⟩
      ·cases hbj
      ·rfl)
    clear he hb hbj hg1 hr1
    obtain ⟨va, hva⟩ : ∃ v, allT (bs.take j) = v := ⟨_, rfl⟩
    obtain ⟨vs, hvs⟩ : ∃ v, anyT (bs.take j) = v := ⟨_, rfl⟩
    obtain ⟨vf, hvf⟩ : ∃ v, firstT (bs.take j) = v := ⟨_, rfl⟩
    rw [hva] at HA ⊢
    rw [hvs] at HY ⊢
    rw [hvf] at HF ⊢
    clear hva hvs hvf
    go_upto_region 10 with (first | (refine wpList_ld rfl _ _ rfl _ _ rfl _ HL1.out ?_) | (go_at_call 113; refine HC.out.mono ?_; rintro r3 w3 ⟨rfl, hk3⟩; have HK3 := Lib.hid (HK.out.trans hk3 (fun _ h => h.elim)); clear hk3 HC HL1 x0 x8))
    rcases j with _ | j
    ·have HF2 := Lib.hid (show firstT (bs.take (0 + 1)) = b by rw [HF.out, if_pos rfl])
     clear HF
     cases va <;> cases vs <;> cases b
     all_goals
      go_wp2_with fail
      go_roundw
      case rel => exact ⟨0 + 1, by go_num, by rw [HA.out]; rfl, by rw [HY.out]; rfl, by rw [HF2.out], by omega, HK3.out⟩
      case measure => simp [intOf]; omega
    ·have HF2 := Lib.hid (show firstT (bs.take (j + 1 + 1)) = vf by rw [HF.out, if_neg (by omega)])
     clear HF
     have hjz : (((j + 1 : Nat) : Int) == 0) = false := by simp; omega
     cases va <;> cases vs <;> cases b
     all_goals
      go_wp2_with fail
      go_roundw
      case rel => exact ⟨j + 1 + 1, by go_num, by rw [HA.out]; rfl, by rw [HY.out]; rfl, by rw [HF2.out], by omega, HK3.out⟩
      case measure => simp [intOf]; omega
   ·have hji : ¬ ((j : Int) < (N : Int)) := by omega
    obtain rfl : j = N := by omega
    have HT := Lib.hid (show bs.take j = bs from List.take_of_length_le (Nat.le_of_eq HBL.out))
    rw [HT.out]
    have HO3 := Lib.hid (show x.p.holds r = if x.op = 1 then true else if x.op = 10 then !(firstT bs) else if x.op = 11 then allT bs else if x.op = 12 then anyT bs else false by rw [HP2.out, if_neg HO2.out])
    obtain ⟨va, hva⟩ : ∃ v, allT bs = v := ⟨_, rfl⟩
    obtain ⟨vs, hvs⟩ : ∃ v, anyT bs = v := ⟨_, rfl⟩
    obtain ⟨vf, hvf⟩ : ∃ v, firstT bs = v := ⟨_, rfl⟩
    rw [hva, hvs, hvf] at HO3 ⊢
    clear hva hvs hvf HT HP2
    by_cases p1 : x.op = 1
    ·have HO := Lib.hid p1
     rw [p1] at x0
     clear p1 g1
     go_wp2_with fail
     go_ret
     exact ⟨by rw [HO3.out, HO.out]; rfl, HK1.out.trans HK.out (fun _ h => h.elim)⟩
    by_cases p2 : x.op = 10
    ·have HO := Lib.hid p2
     rw [p2] at x0
     clear p1 p2 g1
     go_wp2_with fail
     go_ret
     exact ⟨by rw [HO3.out, HO.out]; rfl, HK1.out.trans HK.out (fun _ h => h.elim)⟩
    by_cases p3 : x.op = 11
    ·have HO := Lib.hid p3
     rw [p3] at x0
     clear p1 p2 p3 g1
     go_wp2_with fail
     go_ret
     exact ⟨by rw [HO3.out, HO.out]; rfl, HK1.out.trans HK.out (fun _ h => h.elim)⟩
    by_cases p4 : x.op = 12
    ·have HO := Lib.hid p4
     rw [p4] at x0
     clear p1 p2 p3 p4 g1
     go_wp2_with fail
     go_ret
     exact ⟨by rw [HO3.out, HO.out]; rfl, HK1.out.trans HK.out (fun _ h => h.elim)⟩
    have q1 : (x.op == 1) = false := by simpa using p1
    have q2 : (x.op == 10) = false := by simpa using p2
    have q3 : (x.op == 11) = false := by simpa using p3
    have q4 : (x.op == 12) = false := by simpa using p4
    have HR := Lib.hid (show x.p.holds r = false by rw [HO3.out, if_neg p1, if_neg p2, if_neg p3, if_neg p4])
    clear p1 p2 p3 p4
    go_wp2_with fail
    go_ret
    exact ⟨by rw [HR.out]; rfl, HK1.out.trans HK.out (fun _ h => h.elim)⟩
end Go.Proofs.YtgljdkjepdknnaaGreatDoor
