/- Joined texts: The document's answer: Compare (ratlineref01; the text of the Tree). The document's answer: whether a part about a column holds (ratlineref03.leaf). The document's answer: whether a predicate holds of a row (ratlineref03.Holds). (printed by genref3h.py) The document's answer: are two claims about one thing (ratlineref09.Same). (printed by genref9.py) The document's answer: whether two claims are in conflict (ratlineref09.meets, Conflict). (printed by genref9m.py) -/
import Derived.Test.YtgljdkjepdknnaaGreatDoorMT7
import Derived.Test.YtgljdkjepdknnaaGreatDoorMT8
import Derived.Test.YtgljdkjepdknnaaGreatDoorMT9
import Derived.Test.YtgljdkjepdknnaaGreatDoorMT17
import Derived.Test.YtgljdkjepdknnaaGreatDoorMT10
import Derived.Test.YtgljdkjepdknnaaGreatDoorMT16
set_option maxHeartbeats 64000000
namespace Go.Proofs.YtgljdkjepdknnaaGreatDoor
open Go.ChangeShapes Go.WideShapes Go.ChangeAt Go.RowKit
set_option maxRecDepth 100000
set_option linter.unusedSimpArgs false
theorem mW : ∀ (x y : List UInt8), Op.bytesLess x y = true → Op.bytesLess y x = false
 | _, [], h => by simp [Op.bytesLess] at h
 | [], _ :: _, _ => by simp [Op.bytesLess]
 | a :: x, b :: y, h => by
  simp only [Op.bytesLess, Bool.or_eq_true, Bool.and_eq_true, decide_eq_true_eq, beq_iff_eq] at h
  simp only [Op.bytesLess, Bool.or_eq_false_iff, Bool.and_eq_false_iff, decide_eq_false_iff_not, beq_eq_false_iff_ne]
  rw [UInt8.lt_iff_toNat_lt] at *
  rcases h with h | ⟨rfl, h⟩
  ·exact ⟨by omega, .inl (fun e => by subst e; omega)⟩
  ·exact ⟨by omega, .inr (mW x y h)⟩
theorem mI : ∀ (x y : List UInt8), Op.bytesLess x y = false → Op.bytesLess y x = false → x = y
 | [], [], _, _ => rfl
 | [], _ :: _, h, _ => by simp [Op.bytesLess] at h
 | _ :: _, [], _, h => by simp [Op.bytesLess] at h
 | a :: x, b :: y, h, h' => by
  simp only [Op.bytesLess, Bool.or_eq_false_iff, Bool.and_eq_false_iff, decide_eq_false_iff_not, beq_eq_false_iff_ne] at h h'
  rw [UInt8.lt_iff_toNat_lt] at *
  obtain rfl : a = b := UInt8.toNat_inj.1 (by omega)
  rcases h.2 with h2 | h2
  ·exact absurd rfl h2
  ·rcases h'.2 with h3 | h3
   ·exact absurd rfl h3
   ·rw [mI x y h2 h3]
theorem kZ (a b : ByteArray) : fD b a = - fD a b := by
 unfold fD
 cases h1 : Op.bytesLess a.toList b.toList
 ·cases h2 : Op.bytesLess b.toList a.toList
  ·have := mI _ _ h1 h2
   simp [this]
  ·have : ¬ (a.toList == b.toList) = true := fun e => by
    have := eq_of_beq e
    rw [this] at h1 h2
    rw [h1] at h2; cases h2
   simp [this]
 ·have h2 := mW _ _ h1
  have : ¬ (b.toList == a.toList) = true := fun e => by
   have := eq_of_beq e
   rw [this] at h1 h2
   rw [h1] at h2; cases h2
  simp [h2, this]
theorem nH : ∀ (k : Nat) (xs ys : List UInt8), xs.take k = ys.take k → k ≤ xs.length → k ≤ ys.length → Op.bytesLess xs ys = Op.bytesLess (xs.drop k) (ys.drop k)
 | 0, _, _, _, _, _ => rfl
 | k + 1, [], _, _, h, _ => by simp at h
 | k + 1, _ :: _, [], _, _, h => by simp at h
 | k + 1, x :: xs, y :: ys, h, h1, h2 => by
  simp only [List.take_succ_cons, List.cons.injEq] at h
  obtain ⟨rfl, h⟩ := h
  have := nH k xs ys h (by simpa using h1) (by simpa using h2)
  simp only [List.drop_succ_cons]
  rw [← this]
  simp [Op.bytesLess]
theorem lh : ∀ (xs : List UInt8), Op.bytesLess xs xs = false
 | [] => rfl
 | x :: xs => by simp [Op.bytesLess, lh xs]
theorem qF {xs ys : List UInt8} {k : Nat} {x y : UInt8} (h : xs.take k = ys.take k) (hx : xs[k]? = some x) (hy : ys[k]? = some y) (hlt : x < y) : Op.bytesLess xs ys = true := by
 have h1 := (List.getElem?_eq_some_iff.1 hx).1
 have h2 := (List.getElem?_eq_some_iff.1 hy).1
 rw [nH k xs ys h (by omega) (by omega), List.drop_eq_getElem_cons h1, List.drop_eq_getElem_cons h2]
 rw [List.getElem?_eq_getElem h1] at hx
 rw [List.getElem?_eq_getElem h2] at hy
 rw [Option.some.inj hx, Option.some.inj hy]
 simp [Op.bytesLess, hlt]
theorem ke (a b : ByteArray) : fD a b = if Op.bytesLess a.data.toList b.data.toList then -1 else if a.data.toList = b.data.toList then 0 else 1 := by
 unfold fD
 rw [ByteArray.toList_eq, ByteArray.toList_eq]
 by_cases h : a.data.toList = b.data.toList
 ·rw [h]; simp
 ·rw [beq_eq_false_iff_ne.2 h, if_neg h]; rfl
theorem oT {a b : ByteArray} {k : Nat} {x y : UInt8} (h : a.data.toList.take k = b.data.toList.take k) (hx : a.data.toList[k]? = some x) (hy : b.data.toList[k]? = some y) (hlt : x < y) : fD a b = -1 := by
 rw [ke, qF h hx hy hlt, if_pos rfl]
theorem cmpS_gt {a b : ByteArray} {k : Nat} {x y : UInt8} (h : a.data.toList.take k = b.data.toList.take k) (hx : a.data.toList[k]? = some x) (hy : b.data.toList[k]? = some y) (hlt : y < x) : fD a b = 1 := by
 rw [kZ b a, oT h.symm hy hx hlt]; rfl
theorem ky {a b : ByteArray} (h : a.data.toList.take a.size = b.data.toList.take a.size) (hl : a.size < b.size) : fD a b = -1 := by
 have e1 : a.data.toList.length = a.size := by cases a; rfl
 have e2 : b.data.toList.length = b.size := by cases b; rfl
 rw [ke, nH a.size _ _ h (by omega) (by omega), List.drop_of_length_le (by omega), List.drop_eq_getElem_cons (by omega)]
 rfl
theorem qd {a b : ByteArray} (h : a.data.toList.take b.size = b.data.toList.take b.size) (hl : b.size < a.size) : fD a b = 1 := by
 rw [kZ b a, ky h.symm hl]; rfl
theorem qk {a b : ByteArray} (h : a.data.toList.take a.size = b.data.toList.take a.size) (hl : a.size = b.size) : fD a b = 0 := by
 have e1 : a.data.toList.length = a.size := by cases a; rfl
 have e2 : b.data.toList.length = b.size := by cases b; rfl
 rw [List.take_of_length_le (by omega), List.take_of_length_le (by omega)] at h
 rw [ke, h, lh]; simp
def Val.fits (v : Val) : Prop := v.s.size ≤ maxLen
theorem pA (a b : Val) (ha : a.fits) (hb : b.fits) (w : World) : Calls Tryz.prog 187 #[a.v, b.v] w fun e w' => e = .returned (.int .i64 (dc a b)) ∧ Kept (fun _ => False) w w' := by
 obtain ⟨at_, an, sa⟩ := a
 obtain ⟨bt, bn, sb⟩ := b
 unfold Val.fits maxLen at ha hb
 dsimp only at ha hb
 obtain ⟨w1, hw1⟩ : ∃ w1, w1 = w.alloc (.cells #[.bool at_, .int .i64 an, .string sa] 31) := ⟨_, rfl⟩
 obtain ⟨w2, hw2⟩ : ∃ w2, w2 = w1.alloc (.cells #[.bool bt, .int .i64 bn, .string sb] 31) := ⟨_, rfl⟩
 have hk1 : Kept (fun _ => False) w w1 := by rw [hw1]; exact (Kept.refl _ _).alloc _
 have hk2 : Kept (fun _ => False) w1 w2 := by rw [hw2]; exact (Kept.refl _ _).alloc _
 have hb1 : w1.heap[w.heap.size]? = some (.cells #[.bool at_, .int .i64 an, .string sa] 31 (0, 0)) := by rw [hw1]; exact aB w _
 have hb2 : w2.heap[w1.heap.size]? = some (.cells #[.bool bt, .int .i64 bn, .string sb] 31 (0, 0)) := by rw [hw2]; exact aB w1 _
 have hsz : w1.heap.size = w.heap.size + 1 := by rw [hw1]; simp
 have HK := BO (hk1.trans hk2 (fun _ h => h.elim))
 have HA := BO ((hk2.block _ (aI hb1) (fun h => h)).trans hb1)
 have HB := BO hb2
 have HW := BO (And.intro hw1 (And.intro hw2 hsz))
 clear hk1 hk2 hb1 hb2 hsz hw1 hw2
 dsimp only [Val.v]
 go_enter Tryz.func187, Tryz.ntmps187
 go_upto_region 1 with (fail)
 rw [← HW.out.1, ← HW.out.2.1]
 rw [HW.out.2.2] at HB
 clear HW
 revert HA HB
 generalize w.heap.size = ba
 intro HA HB
 obtain ⟨x0, x1, x2, xf⟩ := fV HA.out
 obtain ⟨y0, y1, y2, yf⟩ := fV HB.out
 rcases (show at_ = false ∨ at_ = true by cases at_ <;> simp) with rfl | rfl <;> rcases (show bt = false ∨ bt = true by cases bt <;> simp) with rfl | rfl
 ·by_cases h1 : an < bn
  ·go_wp2_with fail
   go_ret
   exact ⟨by simp [dc, kD, h1], HK.out⟩
  ·by_cases h2 : bn < an
   ·go_wp2_with fail
    go_ret
    exact ⟨by simp [dc, kD, h1, h2], HK.out⟩
   ·have HV := BO (show dc ⟨false, an, sa⟩ ⟨false, bn, sb⟩ = 0 by simp [dc, kD, h1, h2])
    go_wp2_with fail
    go_ret
    exact ⟨by rw [HV.out]; rfl, HK.out⟩
 ·go_wp2_with fail
  go_ret
  exact ⟨by simp [dc], HK.out⟩
 ·go_wp2_with fail
  go_ret
  exact ⟨by simp [dc], HK.out⟩
 ·have e1 : sa.data.toList.length = sa.size := by cases sa; rfl
  have e2 : sb.data.toList.length = sb.size := by cases sb; rfl
  have Br := BO e1
  have vk := BO e2
  have HC := BO (show dc ⟨true, an, sa⟩ ⟨true, bn, sb⟩ = fD sa sb by simp [dc])
  clear e1 e2
  generalize hna : sa.size = na at ha
  generalize hnb : sb.size = nb at hb
  go_wp2_with fail
  go_loopw [5] (fun i wr => ∃ j : Nat, i = .int .i64 j ∧ j ≤ na ∧ j ≤ nb ∧ sa.data.toList.take j = sb.data.toList.take j ∧ ∃ n, wr = w2.drewN n) (fun i _ => na - (intOf i).toNat)
  case atStart => exact ⟨0, rfl, by omega, by omega, rfl, 0, rfl⟩
  case round =>
   obtain ⟨j, rfl, hj1, hj2, hte, n0, rfl⟩ := hrel
   have HT := BO hte
   clear hte
   by_cases hlt : j < na ∧ j < nb
   ·obtain ⟨g1, g2⟩ := hlt
    have i1 : (j : Int) < (na : Int) := by omega
    have i2 : (j : Int) < (nb : Int) := by omega
    have s1 : j < sa.size := by omega
    have s2 : j < sb.size := by omega
    obtain ⟨x, hx⟩ : ∃ x, sa.data.toList[j]? = some x := ⟨_, List.getElem?_eq_getElem (by have := Br.out; omega)⟩
    obtain ⟨y, hy⟩ : ∃ y, sb.data.toList[j]? = some y := ⟨_, List.getElem?_eq_getElem (by have := vk.out; omega)⟩
    have hx2 : sa[j] = x := by
     have : sa.data.toList[j]? = some sa[j] := by
      cases sa; rw [Array.getElem?_toList]; exact Array.getElem?_eq_getElem s1
     rw [hx] at this; exact (Option.some.inj this).symm
    have hy2 : sb[j] = y := by
     have : sb.data.toList[j]? = some sb[j] := by
      cases sb; rw [Array.getElem?_toList]; exact Array.getElem?_eq_getElem s2
     rw [hy] at this; exact (Option.some.inj this).symm
    have HX := BO hx
    have HY := BO hy
    clear hx hy
    rcases (show x < y ∨ y < x ∨ x = y by
     rcases Nat.lt_trichotomy x.toNat y.toNat with h | h | h
     ·exact .inl h
     ·exact .inr (.inr (UInt8.toNat_inj.1 h))
     ·exact .inr (.inl h)) with hxy | hxy | rfl
    ·have HR := BO (oT HT.out HX.out HY.out hxy)
     have q1 : (x.toNat : Int) < (y.toNat : Int) := by have : x.toNat < y.toNat := hxy; omega
     go_wp2_with fail
     go_quiet (fail)
     go_wp2_with fail
     go_ret
     exact ⟨by rw [HC.out, HR.out]; rfl, (HK.out.drewN _).drewN _⟩
    ·have HR := BO (cmpS_gt HT.out HX.out HY.out hxy)
     have q1 : (y.toNat : Int) < (x.toNat : Int) := by have : y.toNat < x.toNat := hxy; omega
     have q2 : ¬ (x.toNat : Int) < (y.toNat : Int) := by omega
     go_wp2_with fail
     go_quiet (fail)
     go_wp2_with fail
     go_quiet (fail)
     go_wp2_with fail
     go_ret
     exact ⟨by rw [HC.out, HR.out]; rfl, ((HK.out.drewN _).drewN _).drewN _⟩
    ·have q1 : ¬ (x.toNat : Int) < (x.toNat : Int) := by omega
     go_wp2_with fail
     go_quiet (fail)
     go_wp2_with fail
     go_quiet (fail)
     go_wp2_with fail
     go_roundw
     case rel => exact ⟨j + 1, by go_num, by omega, by omega, du HT.out HX.out HY.out, _, rfl⟩
     case measure => simp [intOf]; omega
   ·have HS := BO (show fD sa sb = if na < nb then -1 else if nb < na then 1 else 0 by
     have ht := HT.out
     by_cases h1 : na < nb
     ·rw [if_pos h1]
      exact ky (by rw [hna, show na = j by omega]; exact ht) (by omega)
     ·rw [if_neg h1]
      by_cases h2 : nb < na
      ·rw [if_pos h2]
       exact qd (by rw [hnb, show nb = j by omega]; exact ht) (by omega)
      ·rw [if_neg h2]
       exact qk (by rw [hna, show na = j by omega]; exact ht) (by omega))
    by_cases h1 : na < nb
    ·have q1 : (na : Int) < (nb : Int) := by omega
     have hcut : ¬ (j : Int) < (na : Int) := by omega
     go_wp2_with fail
     go_ret
     exact ⟨by rw [HC.out, HS.out, if_pos h1]; rfl, HK.out.drewN _⟩
    ·by_cases h2 : nb < na
     ·have q1 : ¬ (na : Int) < (nb : Int) := by omega
      have q2 : (nb : Int) < (na : Int) := by omega
      have hc1 : (j : Int) < (na : Int) := by omega
      have hcut : ¬ (j : Int) < (nb : Int) := by omega
      go_wp2_with fail
      go_ret
      exact ⟨by rw [HC.out, HS.out, if_neg h1, if_pos h2]; rfl, HK.out.drewN _⟩
     ·have q1 : ¬ (na : Int) < (nb : Int) := by omega
      have q2 : ¬ (nb : Int) < (na : Int) := by omega
      have hcut : ¬ (j : Int) < (na : Int) := by omega
      go_wp2_with fail
      go_ret
      exact ⟨by rw [HC.out, HS.out, if_neg h1, if_neg h2]; rfl, HK.out.drewN _⟩
theorem sw {w : World} (x : PredE) {rv : Value} {r : List Val} (hfv : x.v.fits) (hfw : x.w.fits) (hfr : ∀ v ∈ r, v.fits) (hr : cO w rv r) : Calls Tryz.prog 157 #[.agg x.cells.toArray, rv] w fun e w' => e = .returned (.bool (dw x.op x.col x.v x.w r)) ∧ Kept (fun _ => False) w w' := by
 obtain ⟨W1, hW1, hk1, hb1⟩ : ∃ W, W = w.alloc (.cells x.cells.toArray tPr) ∧ Kept (fun _ => False) w W ∧ W.heap[w.heap.size]? = some (.cells x.cells.toArray tPr (0, 0)) := ⟨_, rfl, (Kept.refl _ _).alloc _, aB _ _⟩
 have s5 := BO (hr.kept hk1 (fun _ _ h => h))
 obtain ⟨_, hml, ra, rc, rfl, hnc, hcm, _⟩ := id hr
 unfold maxLen at hml hcm
 have sR := BO hW1
 have sW := BO hk1
 have sZ := BO hb1
 have AY := BO hfv
 have xM := BO hfw
 clear hr hW1 hk1 hb1 hfv hfw
 by_cases c1 : x.col < 0
 ·have HR := BO (show dw x.op x.col x.v x.w r = false by unfold dw; rw [if_pos (.inl c1)])
  go_enter Tryz.func157, Tryz.ntmps157
  go_upto_region 1 with fail
  rw [← sR.out]
  clear sR
  generalize w.heap.size = b1 at sZ ⊢
  obtain ⟨x0, x1, x2, x3, x4, x5, x6, x7, x8⟩ := aK sZ.out
  go_wp2_with fail
  go_ret
  exact ⟨by rw [HR.out]; rfl, sW.out⟩
 by_cases c2 : (r.length : Int) ≤ x.col
 ·have HR := BO (show dw x.op x.col x.v x.w r = false by unfold dw; rw [if_pos (.inr c2)])
  have c2' : x.col ≥ (r.length : Int) := c2
  go_enter Tryz.func157, Tryz.ntmps157
  go_upto_region 1 with fail
  rw [← sR.out]
  clear sR
  generalize w.heap.size = b1 at sZ ⊢
  obtain ⟨x0, x1, x2, x3, x4, x5, x6, x7, x8⟩ := aK sZ.out
  go_wp2_with fail
  go_ret
  exact ⟨by rw [HR.out]; rfl, sW.out⟩
 obtain ⟨k, hk⟩ : ∃ k : Nat, x.col = (k : Int) := ⟨x.col.toNat, by omega⟩
 have hkl : k < r.length := by omega
 have hkl2 : (k : Int) < (r.length : Int) := by omega
 have hkn : ¬ ((k : Int) ≥ (r.length : Int)) := by omega
 obtain ⟨y, hy⟩ : ∃ y, r[k]? = some y := ⟨r[k], List.getElem?_eq_getElem hkl⟩
 have zk := BO (hfr y (List.mem_of_getElem? hy))
 obtain ⟨g, og, rfl⟩ : ∃ g o, ra = some ⟨g, o, none⟩ := by
  rcases s5.out.2.2 with ⟨_, _, hv, _, _, _, hc⟩
  cases hv
  rcases hc with h0 | ⟨g, o, h, _⟩
  ·omega
  ·exact ⟨g, o, h⟩
 have vB := BO hk
 have HY := BO hy
 obtain ⟨c, hc⟩ : ∃ c, dc y x.v = c := ⟨_, rfl⟩
 obtain ⟨d, hd⟩ : ∃ d, dc y x.w = d := ⟨_, rfl⟩
 have uV := BO (show dw x.op x.col x.v x.w r = (if x.op = 3 then decide (c = 0) else if x.op = 4 then !decide (c = 0) else if x.op = 5 then decide (c < 0) else if x.op = 6 then decide (c ≤ 0) else if x.op = 7 then decide (0 < c) else if x.op = 8 then decide (0 ≤ c) else decide (0 ≤ c) && decide (d ≤ 0)) by
  unfold dw
  rw [if_neg (by omega)]
  have : r.getD x.col.toNat default = y := by rw [hk, Int.toNat_natCast, List.getD_eq_getElem?_getD, hy]; rfl
  simp only [this, hc, hd])
 have toq := BO (show ∀ W, Calls Tryz.prog 187 #[y.v, x.v.v] W fun e w' => e = .returned (.int .i64 c) ∧ Kept (fun _ => False) W w' from fun W => hc ▸ pA y x.v zk.out AY.out W)
 have ye := BO (show ∀ W, Calls Tryz.prog 187 #[y.v, x.w.v] W fun e w' => e = .returned (.int .i64 d) ∧ Kept (fun _ => False) W w' from fun W => hd ▸ pA y x.w zk.out xM.out W)
 clear c1 c2 hk hy hc hd hkl hfr zk AY xM
 go_enter Tryz.func157, Tryz.ntmps157
 go_upto_region 1 with fail
 rw [← sR.out]
 clear sR
 generalize w.heap.size = b1 at sZ ⊢
 obtain ⟨x0, x1, x2, x3, x4, x5, x6, x7, x8⟩ := aK sZ.out
 rw [vB.out] at x1
 obtain ⟨y0, y1, y2⟩ := gQ s5.out HY.out
 go_upto_region 4 with fail
 obtain ⟨W2, hW2, hk2, hb2⟩ : ∃ W, W = W1.alloc (.cells #[.bool y.t, .int .i64 y.n, .string y.s] 31) ∧ Kept (fun _ => False) W1 W ∧ W.heap[W1.heap.size]? = some (.cells #[.bool y.t, .int .i64 y.n, .string y.s] 31 (0, 0)) := ⟨_, rfl, (Kept.refl _ _).alloc _, aB _ _⟩
 rw [← hW2]
 have s8 := BO (sW.out.trans hk2 (fun _ h => h.elim))
 have tu := BO (aA hk2 sZ.out)
 have ww := BO hb2
 clear hW2 hk2 hb2 x0 x1 x2 x3 x4 x5 x6 x7 x8 y0 y1 y2 sZ sW s5
 generalize W1.heap.size = b3 at *
 obtain ⟨x0, x1, x2, x3, x4, x5, x6, x7, x8⟩ := aK tu.out
 obtain ⟨y0, y1, y2, _⟩ := fV ww.out
 have ug := BO (toq.out W2)
 go_upto_region 5 with (go_at_call 187; refine ug.out.mono ?_; rintro e2 w2 ⟨rfl, hk2⟩; have tn := BO hk2; clear hk2 ug x0 x1 x2 x3 x4 x5 x6 x7 x8 y0 y1 y2)
 obtain ⟨x0, x1, x2, x3, x4, x5, x6, x7, x8⟩ := aK (aA tn.out tu.out)
 obtain ⟨y0, y1, y2, _⟩ := fV (aA tn.out ww.out)
 have tN := BO (s8.out.trans tn.out (fun _ h => h.elim))
 clear s8 tn tu ww toq
 by_cases p3 : x.op = 3
 ·have HO := BO p3
  clear p3
  rw [HO.out] at x0
  go_wp2_with fail
  go_ret
  exact ⟨by rw [uV.out, HO.out]; simp [bne, Int.not_lt, beq_iff_eq]; try rfl, tN.out⟩
 by_cases p4 : x.op = 4
 ·have HO := BO p4
  clear p3 p4
  rw [HO.out] at x0
  go_wp2_with fail
  go_ret
  exact ⟨by rw [uV.out, HO.out]; simp [bne, Int.not_lt, beq_iff_eq]; try rfl, tN.out⟩
 by_cases p5 : x.op = 5
 ·have HO := BO p5
  clear p3 p4 p5
  rw [HO.out] at x0
  go_wp2_with fail
  go_ret
  exact ⟨by rw [uV.out, HO.out]; simp [bne, Int.not_lt, beq_iff_eq]; try rfl, tN.out⟩
 by_cases p6 : x.op = 6
 ·have HO := BO p6
  clear p3 p4 p5 p6
  rw [HO.out] at x0
  go_wp2_with fail
  go_ret
  exact ⟨by rw [uV.out, HO.out]; simp [bne, Int.not_lt, beq_iff_eq]; try rfl, tN.out⟩
 by_cases p7 : x.op = 7
 ·have HO := BO p7
  clear p3 p4 p5 p6 p7
  rw [HO.out] at x0
  go_wp2_with fail
  go_ret
  exact ⟨by rw [uV.out, HO.out]; simp [bne, Int.not_lt, beq_iff_eq]; try rfl, tN.out⟩
 by_cases p8 : x.op = 8
 ·have HO := BO p8
  clear p3 p4 p5 p6 p7 p8
  rw [HO.out] at x0
  go_wp2_with fail
  go_ret
  exact ⟨by rw [uV.out, HO.out]; simp [bne, Int.not_lt, beq_iff_eq]; try rfl, tN.out⟩
 have n3 : (x.op == 3) = false := by simpa using p3
 have n4 : (x.op == 4) = false := by simpa using p4
 have n5 : (x.op == 5) = false := by simpa using p5
 have n6 : (x.op == 6) = false := by simpa using p6
 have n7 : (x.op == 7) = false := by simpa using p7
 have n8 : (x.op == 8) = false := by simpa using p8
 have HR := BO (show dw x.op x.col x.v x.w r = (decide (0 ≤ c) && decide (d ≤ 0)) by rw [uV.out, if_neg p3, if_neg p4, if_neg p5, if_neg p6, if_neg p7, if_neg p8])
 clear p3 p4 p5 p6 p7 p8
 by_cases hc0 : 0 ≤ c
 ·have hc1 : c ≥ 0 := hc0
  have yR := BO (ye.out w2)
  go_wp2_with (go_at_call 187; refine yR.out.mono ?_; rintro e3 w3 ⟨rfl, hk3⟩; have tn := BO (tN.out.trans hk3 (fun _ h => h.elim)); clear hk3 yR)
  go_ret
  exact ⟨by rw [HR.out]; simp [hc0], tn.out⟩
 ·have hc1 : ¬ c ≥ 0 := hc0
  go_wp2_with fail
  go_ret
  exact ⟨by rw [HR.out, decide_eq_false (Int.not_le.mpr hc0)]; rfl, tN.out⟩
inductive PredFit : PredT → Prop
 | mk (op col : Int) (v w : Val) (l : List PredT) (hv : v.fits) (hw : w.fits) (hl : ∀ q ∈ l, PredFit q) : PredFit (.mk op col v w l)
def RHoldsC (w : World) (rv : Value) (e : PredE) (p : Bool) : Prop := ∀ W, Kept (fun _ => False) w W → Calls Tryz.prog 113 #[.agg e.cells.toArray, rv] W fun r W' => r = .returned (.bool p) ∧ Kept (fun _ => False) W W'
def ko (l : List Bool) : Bool := l.all id
def j9 (l : List Bool) : Bool := l.any id
def fh (l : List Bool) : Bool := l.headD false
theorem pH (l : List Bool) (b : Bool) : ko (l ++ [b]) = (ko l && b) := by unfold ko; simp
theorem pT (l : List Bool) (b : Bool) : j9 (l ++ [b]) = (j9 l || b) := by unfold j9; simp
theorem iX {l : List Bool} {j : Nat} {b : Bool} (h : l[j]? = some b) : l.take (j + 1) = l.take j ++ [b] := by rw [List.take_add_one, h]; rfl
theorem pL : ∀ (p : PredT) (x : PredE) (w : World) (rv : Value) (r : List Val), x.p = p → PredFit p → (∀ v ∈ r, v.fits) → PredsRd w (.slice x.la x.ln x.lc) x.subs → cO w rv r →
  Calls Tryz.prog 113 #[.agg x.cells.toArray, rv] w fun e w' => e = .returned (.bool (x.p.holds r)) ∧ Kept (fun _ => False) w w' := by
 refine PredT.ind fun op col v w0 l ih x w rv r hx hfit hfr h1 h2 => ?_
 have hl : x.subs = l := by unfold PredE.p at hx; cases hx; rfl
 have hxv : x.v = v := by unfold PredE.p at hx; cases hx; rfl
 have hxw : x.w = w0 := by unfold PredE.p at hx; cases hx; rfl
 obtain ⟨hfv, hfw, hfl⟩ : v.fits ∧ w0.fits ∧ ∀ q ∈ l, PredFit q := by cases hfit with | mk _ _ _ _ _ a b c => exact ⟨a, b, c⟩
 rw [← hxv] at hfv
 rw [← hxw] at hfw
 obtain ⟨ra, rn, rc, rfl⟩ : ∃ a n c, rv = .slice a n c := by obtain ⟨_, _, a, c, h, _⟩ := h2; exact ⟨a, _, c, h⟩
 obtain ⟨W1, hW1, hk1, hb1⟩ : ∃ W, W = w.alloc (.cells x.cells.toArray tPr) ∧ Kept (fun _ => False) w W ∧ W.heap[w.heap.size]? = some (.cells x.cells.toArray tPr (0, 0)) := ⟨_, rfl, (Kept.refl _ _).alloc _, aB _ _⟩
 obtain ⟨es, he, hsub, hes⟩ : ∃ es : List PredE, Rd W1 9 (.slice x.la x.ln x.lc) es.length (es.flatMap PredE.cells) ∧ x.subs = es.map PredE.p ∧ ∀ e ∈ es, RHoldsC W1 (.slice ra rn rc) e (e.p.holds r) := by
  have k1 := h1.kept hk1
  have hr1 := h2.kept hk1 (fun _ _ h => h)
  generalize hxs : x.subs = xs at k1 hl
  cases k1 with
  | mk _ es he hes =>
   refine ⟨es, he, rfl, fun e hee W hW => ?_⟩
   have hm : e.p ∈ l := by rw [← hl]; exact List.mem_map.2 ⟨e, hee, rfl⟩
   exact ih e.p hm e W _ r rfl (hfl _ hm) hfr ((hes e hee).kept hW) (hr1.kept hW (fun _ _ h => h))
 have HP := BO (show x.p.holds r = _ from PredT.holds_eq x.op x.col x.v x.w x.subs r)
 rw [hsub] at HP
 have ut := BO (h2.kept hk1 (fun _ _ h => h))
 have sR := BO hW1
 have sW := BO hk1
 have sZ := BO hb1
 obtain ⟨_, hml, _, _, hsl, _⟩ := id he
 unfold maxLen at hml
 have tE := BO (Value.slice.inj hsl).2.1
 have HE := BO he
 have vP := BO hes
 have uV := BO (sw (w := W1) x hfv hfw hfr ut.out)
 clear h1 h2 hW1 hk1 hb1 hx hl ih he hes hsub hsl hfit hfv hfw hfl hxv hxw hfr ut
 obtain ⟨bs, hbs⟩ : ∃ bs : List Bool, bs = es.map (fun e => e.p.holds r) := ⟨_, rfl⟩
 have AZ := BO hbs
 have yg := BO (show x.p.holds r = if x.op = 1 then true else if 3 ≤ x.op ∧ x.op ≤ 9 then dw x.op x.col x.v x.w r else if x.op = 10 then !(fh bs) else if x.op = 11 then ko bs else if x.op = 12 then j9 bs else false by
  rw [HP.out, hbs]
  unfold fh ko j9
  simp only [List.map_map, List.all_map, List.any_map, Function.comp_def, id])
 clear hbs HP
 go_enter Tryz.func113, Tryz.ntmps113
 go_upto_region 1 with fail
 rw [← sR.out]
 clear sR
 generalize w.heap.size = b1 at sZ ⊢
 obtain ⟨x0, x1, x2, x3, x4, x5, x6, x7, x8⟩ := aK sZ.out
 by_cases o2 : 3 ≤ x.op ∧ x.op ≤ 9
 ·have HL := BO (bu (ai sZ.out))
  have HR := BO (show x.p.holds r = dw x.op x.col x.v x.w r by rw [yg.out, if_neg (by omega), if_pos o2])
  have g1 : x.op ≥ 3 := o2.1
  have g2 := o2.2
  clear yg vP HE
  go_wp2_with (first | (refine ag rfl _ _ rfl _ _ rfl _ HL.out ?_) | (go_at_call 157; refine uV.out.mono ?_; rintro e1 w1 ⟨rfl, hk2⟩; have s8 := BO (sW.out.trans hk2 (fun _ h => h.elim)); clear hk2 uV HL x0 x1 x2 x3 x4 x5 x6 x7 x8))
  go_ret
  exact ⟨by rw [HR.out]; rfl, s8.out⟩
 have vy := BO o2
 clear uV
 obtain ⟨N, hN⟩ : ∃ N, es.length = N := ⟨_, rfl⟩
 have HN := BO hN
 rw [hN] at tE HE hml
 have Bs := BO (show bs.length = N by rw [AZ.out, List.length_map, hN])
 clear hN
 have g : ¬ (x.op ≥ 3 ∧ x.op ≤ 9) := o2
 rcases (show x.op < 3 ∨ (x.op ≥ 3 ∧ 9 < x.op) by omega) with g1 | ⟨g1, g2⟩
 all_goals
  clear g o2
  rw [tE.out] at x8
  go_wp2_with fail
  go_loopw [5, 6, 7, 8] (fun a s f i wr => ∃ j : Nat, i = .int .i64 j ∧ a = .bool (ko (bs.take j)) ∧ s = .bool (j9 (bs.take j)) ∧ f = .bool (fh (bs.take j)) ∧ j ≤ N ∧ Kept (fun _ => False) W1 wr) (fun _ _ _ i _ => N - (intOf i).toNat)
  case atStart => exact ⟨0, rfl, rfl, rfl, rfl, by omega, Kept.refl _ _⟩
  case round =>
   obtain ⟨j, rfl, rfl, rfl, rfl, hj, hk⟩ := hrel
   have HK := BO hk
   clear hk x0 x1 x2 x3 x4 x5 x6 x7 x8
   obtain ⟨x0, _, _, _, _, _, _, _, x8⟩ := aK (aA HK.out sZ.out)
   rw [tE.out] at x8
   by_cases hlt : j < N
   ·have hji : (j : Int) < (N : Int) := by omega
    obtain ⟨e, he⟩ : ∃ e, es[j]? = some e := ⟨es[j]'(by rw [HN.out]; exact hlt), List.getElem?_eq_getElem _⟩
    obtain ⟨g1, o1, hg1, hr1⟩ := aD PredE.len (by have := HE.out.kept HK.out (fun _ _ h => h); rw [tE.out] at this; exact this) he HN.out
    rw [hg1] at x8
    have tA := BO (bu (w := wr) hr1)
    have HC := BO (vP.out e (List.mem_of_getElem? he) wr HK.out)
    obtain ⟨b, hb⟩ : ∃ b, e.p.holds r = b := ⟨_, rfl⟩
    rw [hb] at HC
    have hbj : bs[j]? = some b := by rw [AZ.out, List.getElem?_map, he, ← hb]; rfl
    have HA := BO (show ko (bs.take (j + 1)) = (ko (bs.take j) && b) by rw [iX hbj, pH])
    have HY := BO (show j9 (bs.take (j + 1)) = (j9 (bs.take j) || b) by rw [iX hbj, pT])
    have HF := BO (show fh (bs.take (j + 1)) = if j = 0 then b else fh (bs.take j) by
     rw [iX hbj]
     rcases j with _ | j
     ·rfl
     ·rcases bs with _ | ⟨b0, bs⟩
      ·cases hbj
      ·rfl)
    clear he hb hbj hg1 hr1
    obtain ⟨va, hva⟩ : ∃ v, ko (bs.take j) = v := ⟨_, rfl⟩
    obtain ⟨vs, hvs⟩ : ∃ v, j9 (bs.take j) = v := ⟨_, rfl⟩
    obtain ⟨vf, hvf⟩ : ∃ v, fh (bs.take j) = v := ⟨_, rfl⟩
    rw [hva] at HA ⊢
    rw [hvs] at HY ⊢
    rw [hvf] at HF ⊢
    clear hva hvs hvf
    go_upto_region 10 with (first | (refine ag rfl _ _ rfl _ _ rfl _ tA.out ?_) | (go_at_call 113; refine HC.out.mono ?_; rintro r3 w3 ⟨rfl, hk3⟩; have tn := BO (HK.out.trans hk3 (fun _ h => h.elim)); clear hk3 HC tA x0 x8))
    rcases j with _ | j
    ·have yN := BO (show fh (bs.take (0 + 1)) = b by rw [HF.out, if_pos rfl])
     clear HF
     cases va <;> cases vs <;> cases b
     all_goals
      go_wp2_with fail
      go_roundw
      case rel => exact ⟨0 + 1, by go_num, by rw [HA.out]; rfl, by rw [HY.out]; rfl, by rw [yN.out], by omega, tn.out⟩
      case measure => simp [intOf]; omega
    ·have yN := BO (show fh (bs.take (j + 1 + 1)) = vf by rw [HF.out, if_neg (by omega)])
     clear HF
     have hjz : (((j + 1 : Nat) : Int) == 0) = false := by simp; omega
     cases va <;> cases vs <;> cases b
     all_goals
      go_wp2_with fail
      go_roundw
      case rel => exact ⟨j + 1 + 1, by go_num, by rw [HA.out]; rfl, by rw [HY.out]; rfl, by rw [yN.out], by omega, tn.out⟩
      case measure => simp [intOf]; omega
   ·have hji : ¬ ((j : Int) < (N : Int)) := by omega
    obtain rfl : j = N := by omega
    have HT := BO (show bs.take j = bs from List.take_of_length_le (Nat.le_of_eq Bs.out))
    rw [HT.out]
    have yS := BO (show x.p.holds r = if x.op = 1 then true else if x.op = 10 then !(fh bs) else if x.op = 11 then ko bs else if x.op = 12 then j9 bs else false by rw [yg.out, if_neg vy.out])
    obtain ⟨va, hva⟩ : ∃ v, ko bs = v := ⟨_, rfl⟩
    obtain ⟨vs, hvs⟩ : ∃ v, j9 bs = v := ⟨_, rfl⟩
    obtain ⟨vf, hvf⟩ : ∃ v, fh bs = v := ⟨_, rfl⟩
    rw [hva, hvs, hvf] at yS ⊢
    clear hva hvs hvf HT yg
    by_cases p1 : x.op = 1
    ·have HO := BO p1
     rw [p1] at x0
     clear p1 g1
     go_wp2_with fail
     go_ret
     exact ⟨by rw [yS.out, HO.out]; rfl, sW.out.trans HK.out (fun _ h => h.elim)⟩
    by_cases p2 : x.op = 10
    ·have HO := BO p2
     rw [p2] at x0
     clear p1 p2 g1
     go_wp2_with fail
     go_ret
     exact ⟨by rw [yS.out, HO.out]; rfl, sW.out.trans HK.out (fun _ h => h.elim)⟩
    by_cases p3 : x.op = 11
    ·have HO := BO p3
     rw [p3] at x0
     clear p1 p2 p3 g1
     go_wp2_with fail
     go_ret
     exact ⟨by rw [yS.out, HO.out]; rfl, sW.out.trans HK.out (fun _ h => h.elim)⟩
    by_cases p4 : x.op = 12
    ·have HO := BO p4
     rw [p4] at x0
     clear p1 p2 p3 p4 g1
     go_wp2_with fail
     go_ret
     exact ⟨by rw [yS.out, HO.out]; rfl, sW.out.trans HK.out (fun _ h => h.elim)⟩
    have q1 : (x.op == 1) = false := by simpa using p1
    have q2 : (x.op == 10) = false := by simpa using p2
    have q3 : (x.op == 11) = false := by simpa using p3
    have q4 : (x.op == 12) = false := by simpa using p4
    have HR := BO (show x.p.holds r = false by rw [yS.out, if_neg p1, if_neg p2, if_neg p3, if_neg p4])
    clear p1 p2 p3 p4
    go_wp2_with fail
    go_ret
    exact ⟨by rw [HR.out]; rfl, sW.out.trans HK.out (fun _ h => h.elim)⟩
theorem el {w : World} {x y : ClmE} (hx : RdCl w x) (hy : RdCl w y) : Calls Tryz.prog 26 #[.agg x.cells.toArray, .agg y.cells.toArray] w fun r w' => r = .returned (.bool (RC.same x.c y.c)) ∧ Kept (fun _ => False) w w' := by
 obtain ⟨W1, hW1, hk1, hb1, hb2⟩ := dD w x.cells.toArray y.cells.toArray tCl tCl
 have sR := BO hW1
 have sW := BO hk1
 have sZ := BO hb1
 have s7 := BO hb2
 have HX := BO (hx.2.kept hk1)
 have HY := BO (hy.2.kept hk1)
 have HP := BO (show RC.same x.c y.c = (decide (x.kind = y.kind) && decide (x.table = y.table) && (if x.kind = 1 then true else if x.kind = 2 then decide (x.key = y.key) else if x.kind = 3 then bR x.pr.p y.pr.p else false)) from rfl)
 clear hW1 hk1 hb1 hb2 hx hy
 by_cases hk : x.kind = y.kind
 ·have k0 : (x.kind != y.kind) = false := by simpa using hk
  by_cases ht : x.table = y.table
  ·have t0 : (x.table != y.table) = false := by simpa using ht
   by_cases h1 : x.kind = 1
   ·have a1 : (x.kind == 1) = true := by simpa using h1
    have HR := BO (show RC.same x.c y.c = true by rw [HP.out, ← hk, h1, ht]; simp)
    clear hk ht h1 HP HX HY
    go_enter Tryz.func26, Tryz.ntmps26
    go_upto_region 1 with fail
    rw [← sR.out]
    clear sR
    generalize w.heap.size + 1 = b2 at *
    generalize w.heap.size = b1 at *
    obtain ⟨x0, x1, x3, x4, x5⟩ := aY sZ.out
    obtain ⟨y0, y1, y3, y4, y5⟩ := aY s7.out
    go_wp2_with fail
    go_ret
    exact ⟨by rw [HR.out]; rfl, sW.out⟩
   ·have a1 : (x.kind == 1) = false := by simpa using h1
    by_cases h2 : x.kind = 2
    ·have a2 : (x.kind == 2) = true := by simpa using h2
     have HR := BO (show RC.same x.c y.c = b6 x.key.t x.key.n x.key.s y.key.t y.key.n y.key.s by rw [HP.out, ← hk, h2, ht, bH]; simp)
     clear hk ht h1 h2 HP HX HY
     go_enter Tryz.func26, Tryz.ntmps26
     go_upto_region 1 with fail
     rw [← sR.out]
     clear sR
     generalize w.heap.size + 1 = b2 at *
     generalize w.heap.size = b1 at *
     obtain ⟨x0, x1, x3, x4, x5⟩ := aY sZ.out
     obtain ⟨y0, y1, y3, y4, y5⟩ := aY s7.out
     go_wp2_with fail
     go_ret
     exact ⟨by rw [HR.out]; rfl, sW.out⟩
    ·have a2 : (x.kind == 2) = false := by simpa using h2
     by_cases h3 : x.kind = 3
     ·have a3 : (x.kind == 3) = true := by simpa using h3
      have HR := BO (show RC.same x.c y.c = bR x.pr.p y.pr.p by rw [HP.out, ← hk, h3, ht]; simp)
      have th := BO (bu (eF sZ.out))
      have tC := BO (bu (eF s7.out))
      have za := BO (lv x.pr.p x.pr y.pr W1 rfl HX.out HY.out)
      clear hk ht h1 h2 h3 HP
      go_enter Tryz.func26, Tryz.ntmps26
      go_upto_region 1 with fail
      rw [← sR.out]
      clear sR
      generalize w.heap.size + 1 = b2 at *
      generalize w.heap.size = b1 at *
      obtain ⟨x0, x1, x3, x4, x5⟩ := aY sZ.out
      obtain ⟨y0, y1, y3, y4, y5⟩ := aY s7.out
      go_wp2_with (first | (refine ag rfl _ _ rfl _ _ rfl _ th.out ?_) | (refine ag rfl _ _ rfl _ _ rfl _ tC.out ?_) | (go_at_call 63; refine za.out.mono ?_; rintro r3 w3 ⟨rfl, hk3⟩; have tn := BO (sW.out.trans hk3 (fun _ h => h.elim)); clear hk3 za th tC x0 x1 x3 x4 x5 y0 y1 y3 y4 y5))
      go_ret
      exact ⟨by rw [HR.out]; rfl, tn.out⟩
     ·have a3 : (x.kind == 3) = false := by simpa using h3
      have HR := BO (show RC.same x.c y.c = false by rw [HP.out, if_neg h1, if_neg h2, if_neg h3]; simp)
      clear hk ht h1 h2 h3 HP HX HY
      go_enter Tryz.func26, Tryz.ntmps26
      go_upto_region 1 with fail
      rw [← sR.out]
      clear sR
      generalize w.heap.size + 1 = b2 at *
      generalize w.heap.size = b1 at *
      obtain ⟨x0, x1, x3, x4, x5⟩ := aY sZ.out
      obtain ⟨y0, y1, y3, y4, y5⟩ := aY s7.out
      go_wp2_with fail
      go_ret
      exact ⟨by rw [HR.out]; rfl, sW.out⟩
  ·have t0 : (x.table != y.table) = true := by simpa using ht
   have HR := BO (show RC.same x.c y.c = false by rw [HP.out]; simp [ht])
   clear hk ht HP HX HY
   go_enter Tryz.func26, Tryz.ntmps26
   go_upto_region 1 with fail
   rw [← sR.out]
   clear sR
   generalize w.heap.size + 1 = b2 at *
   generalize w.heap.size = b1 at *
   obtain ⟨x0, x1, x3, x4, x5⟩ := aY sZ.out
   obtain ⟨y0, y1, y3, y4, y5⟩ := aY s7.out
   go_wp2_with fail
   go_ret
   exact ⟨by rw [HR.out]; rfl, sW.out⟩
 ·have k0 : (x.kind != y.kind) = true := by simpa using hk
  have HR := BO (show RC.same x.c y.c = false by rw [HP.out]; simp [hk])
  clear hk HP HX HY
  go_enter Tryz.func26, Tryz.ntmps26
  go_upto_region 1 with fail
  rw [← sR.out]
  clear sR
  generalize w.heap.size + 1 = b2 at *
  generalize w.heap.size = b1 at *
  obtain ⟨x0, x1, x3, x4, x5⟩ := aY sZ.out
  obtain ⟨y0, y1, y3, y4, y5⟩ := aY s7.out
  go_wp2_with fail
  go_ret
  exact ⟨by rw [HR.out]; rfl, sW.out⟩
def bS (c : Clm) : Prop := PredFit c.pred ∧ ∀ r ∈ c.imgs, ∀ v ∈ r, v.fits
def gl (p : PredT) (r : List Val) : Bool := decide (0 < r.length) && p.holds r
theorem dm {α : Type} (q : α → Bool) {l : List α} {j : Nat} {x : α} (h : l[j]? = some x) : (l.take (j + 1)).any q = ((l.take j).any q || q x) := by
 rw [List.take_add_one, h]; simp
theorem iN {α : Type} (q : α → Bool) {l : List α} {j : Nat} {x : α} (h : l[j]? = some x) (hq : q x = true) : l.any q = true := List.any_eq_true.2 ⟨x, List.mem_of_getElem? h, hq⟩
theorem k8 {w : World} {x y : ClmE} (hx : RdCl w x) (hy : RdCl w y) (hfx : PredFit x.pr.p) (hfy : ∀ r ∈ y.imgs, ∀ v ∈ r, v.fits) : Calls Tryz.prog 72 #[.agg x.cells.toArray, .agg y.cells.toArray] w fun r w' => r = .returned (.bool (bO x.c y.c)) ∧ Kept (fun _ => False) w w' := by
 obtain ⟨W1, hW1, hk1, hb1, hb2⟩ := dD w x.cells.toArray y.cells.toArray tCl tCl
 have HP := BO (show bO x.c y.c = (decide (y.mode = 6) && y.imgs.any (gl x.pr.p)) from rfl)
 have sR := BO hW1
 have sW := BO hk1
 have sZ := BO hb1
 have s7 := BO hb2
 have HX := BO (hx.2.kept hk1)
 have HY := BO (hy.1.kept hk1)
 have zl := BO hfx
 have zk := BO hfy
 obtain ⟨ya, yc, hsl, n1, m1, _⟩ := hy.1.shape
 have wm := BO hsl
 clear hW1 hk1 hb1 hb2 hx hy hfx hfy hsl
 by_cases hm : y.mode = 6
 ·have HM := BO hm
  have HR := BO (show bO x.c y.c = y.imgs.any (gl x.pr.p) by rw [HP.out, decide_eq_true hm]; rfl)
  clear HP hm
  obtain ⟨N, hN⟩ : ∃ N, y.imgs.length = N := ⟨_, rfl⟩
  have HN := BO hN
  rw [wm.out] at HY
  rw [hN] at HY wm n1 m1
  clear hN
  go_enter Tryz.func72, Tryz.ntmps72
  go_upto_region 1 with fail
  rw [← sR.out]
  clear sR
  generalize w.heap.size + 1 = b2 at *
  generalize w.heap.size = b1 at *
  obtain ⟨y2, y6⟩ := aW s7.out
  rw [HM.out] at y2
  rw [wm.out] at y6
  go_wp2_with fail
  go_loopw [5] (fun i wr => ∃ j : Nat, i = .int .i64 j ∧ j ≤ N ∧ (y.imgs.take j).any (gl x.pr.p) = false ∧ Kept (fun _ => False) W1 wr) (fun i _ => N - (intOf i).toNat)
  case atStart => exact ⟨0, rfl, by omega, rfl, Kept.refl _ _⟩
  case round =>
   obtain ⟨j, rfl, hj, hn, hk⟩ := hrel
   have tK := BO hn
   have HK := BO hk
   clear hn hk y2 y6
   have y6 := (aW (aA HK.out s7.out)).2
   rw [wm.out] at y6
   by_cases hlt : j < N
   ·have hji : (j : Int) < (N : Int) := by omega
    obtain ⟨r, hr⟩ : ∃ r, y.imgs[j]? = some r := ⟨y.imgs[j]'(by rw [HN.out]; exact hlt), List.getElem?_eq_getElem _⟩
    obtain ⟨g2, o2, ra2, rc2, hg2, z2, hrow2, hl2, hrc2⟩ := eB (HY.out.kept HK.out) hr
    have vY := BO hr
    rw [hg2] at y6
    have vC := BO (bu (w := wr.drew) (eF (w := wr.drew) (aA HK.out.drew sZ.out)))
    have HC := BO (pL x.pr.p x.pr wr.drew _ r rfl zl.out (zk.out r (List.mem_of_getElem? hr)) (HX.out.kept HK.out.drew) (show cO wr.drew _ r from hrow2))
    obtain ⟨h, hh⟩ : ∃ h, x.pr.p.holds r = h := ⟨_, rfl⟩
    rw [hh] at HC
    have HH := BO hh
    have HG := BO hg2
    have HZ := BO z2
    clear hr hrow2 hh hg2
    go_upto_region 6 with fail
    refine af [(0, false, 7), (1, false, 7), (2, false, 7), (3, false, 7), (4, false, 7), (5, false, 7), (6, false, 7), (7, true, 0), (8, false, 999)] (by kernel_rfl) (by kernel_rfl) ?_
    iterate 7 (refine ae rfl rfl (fun K hK => ?_); (first | ((refine aj _ _ rfl _ _ rfl _ vC.out ?_); go_simp) | go_simp); refine hK _ ?_; clear hK K)
    refine al rfl ?_
    refine aw rfl (fun K hK => ?_)
    go_simp
    refine HC.out.mono ?_
    rintro e3 w3 ⟨rfl, hk3⟩
    have tn := BO (HK.out.drew.trans hk3 (fun _ h => h.elim))
    clear hk3 HC vC y6 z2 HZ HG
    refine hK _ _ ?_
    clear hK K
    refine wpList_nil ?_
    refine And.intro ?_ ?_
    ·go_simp
    refine ae rfl rfl (fun K hK => ?_); (first | ((refine aj _ _ rfl _ _ rfl _ vC.out ?_); go_simp) | go_simp); refine hK _ ?_; clear hK K
    refine ap ?_
    obtain ⟨g2, o2, ra2, rc2, hg2, z2, hrow2, hl2, hrc2⟩ := eB (HY.out.kept tn.out) vY.out
    have y6 := (aW (aA tn.out s7.out)).2
    rw [wm.out, hg2] at y6
    clear hg2 hrow2
    by_cases h0 : 0 < r.length
    ·have h0i : (0 : Int) < (r.length : Int) := by omega
     have HQ := BO (show gl x.pr.p r = h by unfold gl; rw [decide_eq_true h0, HH.out]; rfl)
     clear h0
     cases h
     ·generalize r.length = rl at *
      go_wp2_with fail
      go_roundw
      case rel => exact ⟨j + 1, by go_num, by omega, by rw [dm _ vY.out, tK.out, HQ.out]; rfl, tn.out⟩
      case measure => simp [intOf]; omega
     ·generalize r.length = rl at *
      go_wp2_with fail
      go_ret
      exact ⟨by rw [HR.out, iN _ vY.out HQ.out]; rfl, sW.out.trans tn.out (fun _ h => h.elim)⟩
    ·have h0i : ¬ ((0 : Int) < (r.length : Int)) := by omega
     have HQ := BO (show gl x.pr.p r = false by unfold gl; rw [decide_eq_false h0]; rfl)
     clear h0
     generalize r.length = rl at *
     go_wp2_with fail
     go_roundw
     case rel => exact ⟨j + 1, by go_num, by omega, by rw [dm _ vY.out, tK.out, HQ.out]; rfl, tn.out⟩
     case measure => simp [intOf]; omega
   ·have hji : ¬ ((j : Int) < (N : Int)) := by omega
    obtain rfl : j = N := by omega
    have HF := BO (show y.imgs.any (gl x.pr.p) = false by have := tK.out; rw [List.take_of_length_le (Nat.le_of_eq HN.out)] at this; exact this)
    go_wp2_with fail
    go_ret
    exact ⟨by rw [HR.out, HF.out]; rfl, sW.out.trans HK.out (fun _ h => h.elim)⟩
 ·have HR := BO (show bO x.c y.c = false by rw [HP.out, decide_eq_false hm]; rfl)
  have hq : (y.mode != 6) = true := by simpa using hm
  clear HP hm
  go_enter Tryz.func72, Tryz.ntmps72
  go_upto_region 1 with fail
  rw [← sR.out]
  clear sR
  generalize w.heap.size + 1 = b2 at *
  generalize w.heap.size = b1 at *
  obtain ⟨y2, y6⟩ := aW s7.out
  go_wp2_with fail
  go_ret
  exact ⟨by rw [HR.out]; rfl, sW.out⟩
theorem rh {w : World} {x y : ClmE} (hx : RdCl w x) (hy : RdCl w y) (hfx : bS x.c) (hfy : bS y.c) : Calls Tryz.prog 36 #[.agg x.cells.toArray, .agg y.cells.toArray] w fun r w' => r = .returned (.bool (RC.conf x.c y.c)) ∧ Kept (fun _ => False) w w' := by
 obtain ⟨W1, hW1, hk1, hb1, hb2⟩ := dD w x.cells.toArray y.cells.toArray tCl tCl
 have HP := BO (show RC.conf x.c y.c = (decide (x.table = y.table) && (if x.kind = 1 ∧ y.kind = 1 then !cK x.mode y.mode else if x.kind = 2 ∧ y.kind = 2 then decide (x.key = y.key) && !cK x.mode y.mode else if x.kind = 3 ∧ y.kind = 2 then bO x.c y.c else if x.kind = 2 ∧ y.kind = 3 then bO y.c x.c else false)) from rfl)
 have sR := BO hW1
 have sW := BO hk1
 have sZ := BO hb1
 have s7 := BO hb2
 have HM := BO (show ∀ W, Kept (fun _ => False) W1 W → Calls Tryz.prog 72 #[.agg x.cells.toArray, .agg y.cells.toArray] W fun r w' => r = .returned (.bool (bO x.c y.c)) ∧ Kept (fun _ => False) W w' from fun W hW => k8 ((hx.kept hk1).kept hW) ((hy.kept hk1).kept hW) hfx.1 hfy.2)
 have HN := BO (show ∀ W, Kept (fun _ => False) W1 W → Calls Tryz.prog 72 #[.agg y.cells.toArray, .agg x.cells.toArray] W fun r w' => r = .returned (.bool (bO y.c x.c)) ∧ Kept (fun _ => False) W w' from fun W hW => k8 ((hy.kept hk1).kept hW) ((hx.kept hk1).kept hW) hfy.1 hfx.2)
 clear hW1 hk1 hb1 hb2 hx hy hfx hfy
 by_cases ht : x.table = y.table
 ·have t0 : (x.table != y.table) = false := by simpa using ht
  have vm := BO (show ∀ W, Calls Tryz.prog 71 #[.int .i64 x.mode, .int .i64 y.mode] W fun e w' => e = .returned (.bool (cK x.mode y.mode)) ∧ Kept (fun _ => False) W w' from fun W => rH x.mode y.mode W)
  obtain ⟨ff, hff⟩ : ∃ f, cK x.mode y.mode = f := ⟨_, rfl⟩
  rw [hff] at vm HP
  clear hff
  have wC := BO (show RC.conf x.c y.c = (if x.kind = 1 ∧ y.kind = 1 then !ff else if x.kind = 2 ∧ y.kind = 2 then decide (x.key = y.key) && !ff else if x.kind = 3 ∧ y.kind = 2 then bO x.c y.c else if x.kind = 2 ∧ y.kind = 3 then bO y.c x.c else false) by rw [HP.out, decide_eq_true ht]; rfl)
  clear HP ht
  go_enter Tryz.func36, Tryz.ntmps36
  go_upto_region 1 with fail
  rw [← sR.out]
  clear sR
  generalize w.heap.size + 1 = b2 at *
  generalize w.heap.size = b1 at *
  obtain ⟨x0, x1, x3, x4, x5⟩ := aY sZ.out
  obtain ⟨y0, y1, y3, y4, y5⟩ := aY s7.out
  obtain ⟨x2, x6⟩ := aW sZ.out
  obtain ⟨y2, y6⟩ := aW s7.out
  have HF := BO (vm.out W1)
  go_upto_region 4 with (go_at_call 71; refine HF.out.mono ?_; rintro r2 w2 ⟨rfl, hk2⟩; have s8 := BO hk2; clear hk2 HF x0 x1 x2 x3 x4 x5 x6 y0 y1 y2 y3 y4 y5 y6)
  obtain ⟨x0, x1, x3, x4, x5⟩ := aY (aA s8.out sZ.out)
  obtain ⟨y0, y1, y3, y4, y5⟩ := aY (aA s8.out s7.out)
  have th := BO (ay (ai (aA s8.out sZ.out)))
  have tC := BO (ay (ai (aA s8.out s7.out)))
  have Ag := BO (HM.out w2 s8.out)
  have wW := BO (HN.out w2 s8.out)
  have tN := BO (sW.out.trans s8.out (fun _ h => h.elim))
  clear sW s8 sZ s7 HM HN vm
  by_cases h11 : x.kind = 1 ∧ y.kind = 1
  ·obtain ⟨h1, h2⟩ := h11
   have HR := BO (show RC.conf x.c y.c = !ff by rw [wC.out, h1, h2]; rfl)
   rw [h1] at x0
   rw [h2] at y0
   clear h1 h2 wC
   cases ff
   all_goals
    go_wp2_with fail
    go_ret
    exact ⟨by rw [HR.out]; rfl, tN.out⟩
  by_cases h22 : x.kind = 2 ∧ y.kind = 2
  ·obtain ⟨h1, h2⟩ := h22
   rw [h1] at x0
   rw [h2] at y0
   have yd := BO (show RC.conf x.c y.c = (decide (x.key = y.key) && !ff) by rw [wC.out, h1, h2]; rfl)
   clear h1 h2 wC
   cases hk : decide (x.key = y.key)
   ·have HR := BO (show RC.conf x.c y.c = false by rw [yd.out, hk]; rfl)
    have q : b6 x.key.t x.key.n x.key.s y.key.t y.key.n y.key.s = false := by rw [bH]; exact hk
    clear hk yd
    go_wp2_with fail
    go_ret
    exact ⟨by rw [HR.out]; rfl, tN.out⟩
   ·have HR := BO (show RC.conf x.c y.c = !ff by rw [yd.out, hk]; rfl)
    have q : b6 x.key.t x.key.n x.key.s y.key.t y.key.n y.key.s = true := by rw [bH]; exact hk
    clear hk yd
    cases ff
    all_goals
     go_wp2_with fail
     go_ret
     exact ⟨by rw [HR.out]; rfl, tN.out⟩
  by_cases h32 : x.kind = 3 ∧ y.kind = 2
  ·obtain ⟨h1, h2⟩ := h32
   have HR := BO (show RC.conf x.c y.c = bO x.c y.c by rw [wC.out, h1, h2]; rfl)
   rw [h1] at x0
   rw [h2] at y0
   clear h1 h2 wC
   ·go_wp2_with (first | (refine ag rfl _ _ rfl _ _ rfl _ th.out ?_) | (refine ag rfl _ _ rfl _ _ rfl _ tC.out ?_) | (go_at_call 72; refine Ag.out.mono ?_; rintro r3 w3 ⟨rfl, hk3⟩; have tn := BO (tN.out.trans hk3 (fun _ h => h.elim)); clear hk3 Ag wW th tC x0 x1 x3 x4 x5 y0 y1 y3 y4 y5))
    go_ret
    exact ⟨by rw [HR.out]; rfl, tn.out⟩
  by_cases h23 : x.kind = 2 ∧ y.kind = 3
  ·obtain ⟨h1, h2⟩ := h23
   have HR := BO (show RC.conf x.c y.c = bO y.c x.c by rw [wC.out, h1, h2]; rfl)
   rw [h1] at x0
   rw [h2] at y0
   clear h1 h2 wC
   ·go_wp2_with (first | (refine ag rfl _ _ rfl _ _ rfl _ th.out ?_) | (refine ag rfl _ _ rfl _ _ rfl _ tC.out ?_) | (go_at_call 72; refine wW.out.mono ?_; rintro r3 w3 ⟨rfl, hk3⟩; have tn := BO (tN.out.trans hk3 (fun _ h => h.elim)); clear hk3 Ag wW th tC x0 x1 x3 x4 x5 y0 y1 y3 y4 y5))
    go_ret
    exact ⟨by rw [HR.out]; rfl, tn.out⟩
  have HR := BO (show RC.conf x.c y.c = false by rw [wC.out, if_neg h11, if_neg h22, if_neg h32, if_neg h23])
  by_cases a1 : x.kind = 1
  ·have e1 : (y.kind == 1) = false := by simp; omega
   rw [a1] at x0
   clear h11 h22 h32 h23 wC a1
   go_wp2_with fail
   go_ret
   exact ⟨by rw [HR.out]; rfl, tN.out⟩
  by_cases a2 : x.kind = 2
  ·have e1 : (y.kind == 2) = false := by simp; omega
   have e2 : (y.kind == 3) = false := by simp; omega
   rw [a2] at x0
   clear h11 h22 h32 h23 wC a1 a2
   go_wp2_with fail
   go_ret
   exact ⟨by rw [HR.out]; rfl, tN.out⟩
  by_cases a3 : x.kind = 3
  ·have e1 : (y.kind == 2) = false := by simp; omega
   rw [a3] at x0
   clear h11 h22 h32 h23 wC a1 a2 a3
   go_wp2_with fail
   go_ret
   exact ⟨by rw [HR.out]; rfl, tN.out⟩
  have e1 : (x.kind == 1) = false := by simpa using a1
  have e2 : (x.kind == 2) = false := by simpa using a2
  have e3 : (x.kind == 3) = false := by simpa using a3
  clear h11 h22 h32 h23 wC a1 a2 a3
  go_wp2_with fail
  go_ret
  exact ⟨by rw [HR.out]; rfl, tN.out⟩
 ·have t0 : (x.table != y.table) = true := by simpa using ht
  have HR := BO (show RC.conf x.c y.c = false by rw [HP.out, decide_eq_false ht]; rfl)
  clear HP ht
  go_enter Tryz.func36, Tryz.ntmps36
  go_upto_region 1 with fail
  rw [← sR.out]
  clear sR
  generalize w.heap.size + 1 = b2 at *
  generalize w.heap.size = b1 at *
  obtain ⟨x0, x1, x3, x4, x5⟩ := aY sZ.out
  obtain ⟨y0, y1, y3, y4, y5⟩ := aY s7.out
  go_wp2_with fail
  go_ret
  exact ⟨by rw [HR.out]; rfl, sW.out⟩
end Go.Proofs.YtgljdkjepdknnaaGreatDoor
