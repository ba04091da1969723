/- Joined texts: The document's answer: Compare (ratlineref01; the text of the Tree). The document's answer: whether a part about a column holds (ratlineref03.leaf). The document's answer: whether a predicate holds of a row (ratlineref03.Holds). (printed by genref3h.py) The document's answer: are two claims about one thing (ratlineref09.Same). (printed by genref9.py) The document's answer: whether two claims are in conflict (ratlineref09.meets, Conflict). (printed by genref9m.py) -/
import Derived.Test.YtgljdkjepdknnaaGreatDoorML7
import Derived.Test.YtgljdkjepdknnaaGreatDoorML8
import Derived.Test.YtgljdkjepdknnaaGreatDoorML9
import Derived.Test.YtgljdkjepdknnaaGreatDoorML17
import Derived.Test.YtgljdkjepdknnaaGreatDoorML10
import Derived.Test.YtgljdkjepdknnaaGreatDoorML16
set_option maxHeartbeats 64000000
namespace Go.Proofs.YtgljdkjepdknnaaGreatDoor
open Go.ChangeShapes Go.WideShapes Go.ChangeAt Go.RowKit
set_option maxRecDepth 100000
set_option linter.unusedSimpArgs false
theorem oB : ∀ (x y : List UInt8), Op.bytesLess x y = true → Op.bytesLess y x = false
 | _, [], h => by simp [Op.bytesLess] at h
 | [], _ :: _, _ => by simp [Op.bytesLess]
 | a :: x, b :: y, h => by
  simp only [Op.bytesLess, Bool.or_eq_true, Bool.and_eq_true, decide_eq_true_eq, beq_iff_eq] at h
  simp only [Op.bytesLess, Bool.or_eq_false_iff, Bool.and_eq_false_iff, decide_eq_false_iff_not, beq_eq_false_iff_ne]
  rw [UInt8.lt_iff_toNat_lt] at *
  rcases h with h | ⟨rfl, h⟩
  ·exact ⟨by omega, .inl (fun e => by subst e; omega)⟩
  ·exact ⟨by omega, .inr (oB x y h)⟩
theorem pa : ∀ (x y : List UInt8), Op.bytesLess x y = false → Op.bytesLess y x = false → x = y
 | [], [], _, _ => rfl
 | [], _ :: _, h, _ => by simp [Op.bytesLess] at h
 | _ :: _, [], _, h => by simp [Op.bytesLess] at h
 | a :: x, b :: y, h, h' => by
  simp only [Op.bytesLess, Bool.or_eq_false_iff, Bool.and_eq_false_iff, decide_eq_false_iff_not, beq_eq_false_iff_ne] at h h'
  rw [UInt8.lt_iff_toNat_lt] at *
  obtain rfl : a = b := UInt8.toNat_inj.1 (by omega)
  rcases h.2 with h2 | h2
  ·exact absurd rfl h2
  ·rcases h'.2 with h3 | h3
   ·exact absurd rfl h3
   ·rw [pa x y h2 h3]
theorem mS (a b : ByteArray) : fU b a = - fU a b := by
 unfold fU
 cases h1 : Op.bytesLess a.toList b.toList
 ·cases h2 : Op.bytesLess b.toList a.toList
  ·have := pa _ _ h1 h2
   simp [this]
  ·have : ¬ (a.toList == b.toList) = true := fun e => by
    have := eq_of_beq e
    rw [this] at h1 h2
    rw [h1] at h2; cases h2
   simp [this]
 ·have h2 := oB _ _ h1
  have : ¬ (b.toList == a.toList) = true := fun e => by
   have := eq_of_beq e
   rw [this] at h1 h2
   rw [h1] at h2; cases h2
  simp [h2, this]
theorem qN : ∀ (k : Nat) (xs ys : List UInt8), xs.take k = ys.take k → k ≤ xs.length → k ≤ ys.length → Op.bytesLess xs ys = Op.bytesLess (xs.drop k) (ys.drop k)
 | 0, _, _, _, _, _ => rfl
 | k + 1, [], _, _, h, _ => by simp at h
 | k + 1, _ :: _, [], _, _, h => by simp at h
 | k + 1, x :: xs, y :: ys, h, h1, h2 => by
  simp only [List.take_succ_cons, List.cons.injEq] at h
  obtain ⟨rfl, h⟩ := h
  have := qN k xs ys h (by simpa using h1) (by simpa using h2)
  simp only [List.drop_succ_cons]
  rw [← this]
  simp [Op.bytesLess]
theorem mv : ∀ (xs : List UInt8), Op.bytesLess xs xs = false
 | [] => rfl
 | x :: xs => by simp [Op.bytesLess, mv xs]
theorem sS {xs ys : List UInt8} {k : Nat} {x y : UInt8} (h : xs.take k = ys.take k) (hx : xs[k]? = some x) (hy : ys[k]? = some y) (hlt : x < y) : Op.bytesLess xs ys = true := by
 have h1 := (List.getElem?_eq_some_iff.1 hx).1
 have h2 := (List.getElem?_eq_some_iff.1 hy).1
 rw [qN k xs ys h (by omega) (by omega), List.drop_eq_getElem_cons h1, List.drop_eq_getElem_cons h2]
 rw [List.getElem?_eq_getElem h1] at hx
 rw [List.getElem?_eq_getElem h2] at hy
 rw [Option.some.inj hx, Option.some.inj hy]
 simp [Op.bytesLess, hlt]
theorem li (a b : ByteArray) : fU a b = if Op.bytesLess a.data.toList b.data.toList then -1 else if a.data.toList = b.data.toList then 0 else 1 := by
 unfold fU
 rw [ByteArray.toList_eq, ByteArray.toList_eq]
 by_cases h : a.data.toList = b.data.toList
 ·rw [h]; simp
 ·rw [beq_eq_false_iff_ne.2 h, if_neg h]; rfl
theorem rt {a b : ByteArray} {k : Nat} {x y : UInt8} (h : a.data.toList.take k = b.data.toList.take k) (hx : a.data.toList[k]? = some x) (hy : b.data.toList[k]? = some y) (hlt : x < y) : fU a b = -1 := by
 rw [li, sS h hx hy hlt, if_pos rfl]
theorem cmpS_gt {a b : ByteArray} {k : Nat} {x y : UInt8} (h : a.data.toList.take k = b.data.toList.take k) (hx : a.data.toList[k]? = some x) (hy : b.data.toList[k]? = some y) (hlt : y < x) : fU a b = 1 := by
 rw [mS b a, rt h.symm hy hx hlt]; rfl
theorem lQ {a b : ByteArray} (h : a.data.toList.take a.size = b.data.toList.take a.size) (hl : a.size < b.size) : fU a b = -1 := by
 have e1 : a.data.toList.length = a.size := by cases a; rfl
 have e2 : b.data.toList.length = b.size := by cases b; rfl
 rw [li, qN a.size _ _ h (by omega) (by omega), List.drop_of_length_le (by omega), List.drop_eq_getElem_cons (by omega)]
 rfl
theorem sk {a b : ByteArray} (h : a.data.toList.take b.size = b.data.toList.take b.size) (hl : b.size < a.size) : fU a b = 1 := by
 rw [mS b a, lQ h.symm hl]; rfl
theorem sV {a b : ByteArray} (h : a.data.toList.take a.size = b.data.toList.take a.size) (hl : a.size = b.size) : fU a b = 0 := by
 have e1 : a.data.toList.length = a.size := by cases a; rfl
 have e2 : b.data.toList.length = b.size := by cases b; rfl
 rw [List.take_of_length_le (by omega), List.take_of_length_le (by omega)] at h
 rw [li, h, mv]; simp
def Val.fits (v : Val) : Prop := v.s.size ≤ maxLen
theorem ru (a b : Val) (ha : a.fits) (hb : b.fits) (w : World) : Calls Tryz.prog 187 #[a.v, b.v] w fun e w' => e = .returned (.int .i64 (dx a b)) ∧ Kept (fun _ => False) w w' := by
 obtain ⟨at_, an, sa⟩ := a
 obtain ⟨bt, bn, sb⟩ := b
 unfold Val.fits maxLen at ha hb
 dsimp only at ha hb
 obtain ⟨w1, hw1⟩ : ∃ w1, w1 = w.alloc (.cells #[.bool at_, .int .i64 an, .string sa] 31) := ⟨_, rfl⟩
 obtain ⟨w2, hw2⟩ : ∃ w2, w2 = w1.alloc (.cells #[.bool bt, .int .i64 bn, .string sb] 31) := ⟨_, rfl⟩
 have hk1 : Kept (fun _ => False) w w1 := by rw [hw1]; exact (Kept.refl _ _).alloc _
 have hk2 : Kept (fun _ => False) w1 w2 := by rw [hw2]; exact (Kept.refl _ _).alloc _
 have hb1 : w1.heap[w.heap.size]? = some (.cells #[.bool at_, .int .i64 an, .string sa] 31 (0, 0)) := by rw [hw1]; exact aC w _
 have hb2 : w2.heap[w1.heap.size]? = some (.cells #[.bool bt, .int .i64 bn, .string sb] 31 (0, 0)) := by rw [hw2]; exact aC w1 _
 have hsz : w1.heap.size = w.heap.size + 1 := by rw [hw1]; simp
 have HK := Eh (hk1.trans hk2 (fun _ h => h.elim))
 have HA := Eh ((hk2.block _ (aH hb1) (fun h => h)).trans hb1)
 have HB := Eh hb2
 have HW := Eh (And.intro hw1 (And.intro hw2 hsz))
 clear hk1 hk2 hb1 hb2 hsz hw1 hw2
 dsimp only [Val.v]
 go_enter Tryz.func187, Tryz.ntmps187
 go_upto_region 1 with (fail)
 rw [← HW.out.1, ← HW.out.2.1]
 rw [HW.out.2.2] at HB
 clear HW
 revert HA HB
 generalize w.heap.size = ba
 intro HA HB
 obtain ⟨x0, x1, x2, xf⟩ := gG HA.out
 obtain ⟨y0, y1, y2, yf⟩ := gG HB.out
 rcases (show at_ = false ∨ at_ = true by cases at_ <;> simp) with rfl | rfl <;> rcases (show bt = false ∨ bt = true by cases bt <;> simp) with rfl | rfl
 ·by_cases h1 : an < bn
  ·go_wp2_with fail
   go_ret
   exact ⟨by simp [dx, ly, h1], HK.out⟩
  ·by_cases h2 : bn < an
   ·go_wp2_with fail
    go_ret
    exact ⟨by simp [dx, ly, h1, h2], HK.out⟩
   ·have HV := Eh (show dx ⟨false, an, sa⟩ ⟨false, bn, sb⟩ = 0 by simp [dx, ly, h1, h2])
    go_wp2_with fail
    go_ret
    exact ⟨by rw [HV.out]; rfl, HK.out⟩
 ·go_wp2_with fail
  go_ret
  exact ⟨by simp [dx], HK.out⟩
 ·go_wp2_with fail
  go_ret
  exact ⟨by simp [dx], HK.out⟩
 ·have e1 : sa.data.toList.length = sa.size := by cases sa; rfl
  have e2 : sb.data.toList.length = sb.size := by cases sb; rfl
  have Ca := Eh e1
  have xp := Eh e2
  have HC := Eh (show dx ⟨true, an, sa⟩ ⟨true, bn, sb⟩ = fU sa sb by simp [dx])
  clear e1 e2
  generalize hna : sa.size = na at ha
  generalize hnb : sb.size = nb at hb
  go_wp2_with fail
  go_loopw [5] (fun i wr => ∃ j : Nat, i = .int .i64 j ∧ j ≤ na ∧ j ≤ nb ∧ sa.data.toList.take j = sb.data.toList.take j ∧ ∃ n, wr = w2.drewN n) (fun i _ => na - (intOf i).toNat)
  case atStart => exact ⟨0, rfl, by omega, by omega, rfl, 0, rfl⟩
  case round =>
   obtain ⟨j, rfl, hj1, hj2, hte, n0, rfl⟩ := hrel
   have HT := Eh hte
   clear hte
   by_cases hlt : j < na ∧ j < nb
   ·obtain ⟨g1, g2⟩ := hlt
    have i1 : (j : Int) < (na : Int) := by omega
    have i2 : (j : Int) < (nb : Int) := by omega
    have s1 : j < sa.size := by omega
    have s2 : j < sb.size := by omega
    obtain ⟨x, hx⟩ : ∃ x, sa.data.toList[j]? = some x := ⟨_, List.getElem?_eq_getElem (by have := Ca.out; omega)⟩
    obtain ⟨y, hy⟩ : ∃ y, sb.data.toList[j]? = some y := ⟨_, List.getElem?_eq_getElem (by have := xp.out; omega)⟩
    have hx2 : sa[j] = x := by
     have : sa.data.toList[j]? = some sa[j] := by
      cases sa; rw [Array.getElem?_toList]; exact Array.getElem?_eq_getElem s1
     rw [hx] at this; exact (Option.some.inj this).symm
    have hy2 : sb[j] = y := by
     have : sb.data.toList[j]? = some sb[j] := by
      cases sb; rw [Array.getElem?_toList]; exact Array.getElem?_eq_getElem s2
     rw [hy] at this; exact (Option.some.inj this).symm
    have HX := Eh hx
    have HY := Eh hy
    clear hx hy
    rcases (show x < y ∨ y < x ∨ x = y by
     rcases Nat.lt_trichotomy x.toNat y.toNat with h | h | h
     ·exact .inl h
     ·exact .inr (.inr (UInt8.toNat_inj.1 h))
     ·exact .inr (.inl h)) with hxy | hxy | rfl
    ·have HR := Eh (rt HT.out HX.out HY.out hxy)
     have q1 : (x.toNat : Int) < (y.toNat : Int) := by have : x.toNat < y.toNat := hxy; omega
     go_wp2_with fail
     go_quiet (fail)
     go_wp2_with fail
     go_ret
     exact ⟨by rw [HC.out, HR.out]; rfl, (HK.out.drewN _).drewN _⟩
    ·have HR := Eh (cmpS_gt HT.out HX.out HY.out hxy)
     have q1 : (y.toNat : Int) < (x.toNat : Int) := by have : y.toNat < x.toNat := hxy; omega
     have q2 : ¬ (x.toNat : Int) < (y.toNat : Int) := by omega
     go_wp2_with fail
     go_quiet (fail)
     go_wp2_with fail
     go_quiet (fail)
     go_wp2_with fail
     go_ret
     exact ⟨by rw [HC.out, HR.out]; rfl, ((HK.out.drewN _).drewN _).drewN _⟩
    ·have q1 : ¬ (x.toNat : Int) < (x.toNat : Int) := by omega
     go_wp2_with fail
     go_quiet (fail)
     go_wp2_with fail
     go_quiet (fail)
     go_wp2_with fail
     go_roundw
     case rel => exact ⟨j + 1, by go_num, by omega, by omega, dK HT.out HX.out HY.out, _, rfl⟩
     case measure => simp [intOf]; omega
   ·have HS := Eh (show fU sa sb = if na < nb then -1 else if nb < na then 1 else 0 by
     have ht := HT.out
     by_cases h1 : na < nb
     ·rw [if_pos h1]
      exact lQ (by rw [hna, show na = j by omega]; exact ht) (by omega)
     ·rw [if_neg h1]
      by_cases h2 : nb < na
      ·rw [if_pos h2]
       exact sk (by rw [hnb, show nb = j by omega]; exact ht) (by omega)
      ·rw [if_neg h2]
       exact sV (by rw [hna, show na = j by omega]; exact ht) (by omega))
    by_cases h1 : na < nb
    ·have q1 : (na : Int) < (nb : Int) := by omega
     have hcut : ¬ (j : Int) < (na : Int) := by omega
     go_wp2_with fail
     go_ret
     exact ⟨by rw [HC.out, HS.out, if_pos h1]; rfl, HK.out.drewN _⟩
    ·by_cases h2 : nb < na
     ·have q1 : ¬ (na : Int) < (nb : Int) := by omega
      have q2 : (nb : Int) < (na : Int) := by omega
      have hc1 : (j : Int) < (na : Int) := by omega
      have hcut : ¬ (j : Int) < (nb : Int) := by omega
      go_wp2_with fail
      go_ret
      exact ⟨by rw [HC.out, HS.out, if_neg h1, if_pos h2]; rfl, HK.out.drewN _⟩
     ·have q1 : ¬ (na : Int) < (nb : Int) := by omega
      have q2 : ¬ (nb : Int) < (na : Int) := by omega
      have hcut : ¬ (j : Int) < (na : Int) := by omega
      go_wp2_with fail
      go_ret
      exact ⟨by rw [HC.out, HS.out, if_neg h1, if_neg h2]; rfl, HK.out.drewN _⟩
theorem tA {w : World} (x : PredE) {rv : Value} {r : List Val} (hfv : x.v.fits) (hfw : x.w.fits) (hfr : ∀ v ∈ r, v.fits) (hr : da w rv r) : Calls Tryz.prog 157 #[.agg x.cells.toArray, rv] w fun e w' => e = .returned (.bool (dN x.op x.col x.v x.w r)) ∧ Kept (fun _ => False) w w' := by
 obtain ⟨W1, hW1, hk1, hb1⟩ : ∃ W, W = w.alloc (.cells x.cells.toArray tPr) ∧ Kept (fun _ => False) w W ∧ W.heap[w.heap.size]? = some (.cells x.cells.toArray tPr (0, 0)) := ⟨_, rfl, (Kept.refl _ _).alloc _, aC _ _⟩
 have vk := Eh (hr.kept hk1 (fun _ _ h => h))
 obtain ⟨_, hml, ra, rc, rfl, hnc, hcm, _⟩ := id hr
 unfold maxLen at hml hcm
 have uW := Eh hW1
 have vd := Eh hk1
 have vj := Eh hb1
 have C9 := Eh hfv
 have xu := Eh hfw
 clear hr hW1 hk1 hb1 hfv hfw
 by_cases c1 : x.col < 0
 ·have HR := Eh (show dN x.op x.col x.v x.w r = false by unfold dN; rw [if_pos (.inl c1)])
  go_enter Tryz.func157, Tryz.ntmps157
  go_upto_region 1 with fail
  rw [← uW.out]
  clear uW
  generalize w.heap.size = b1 at vj ⊢
  obtain ⟨x0, x1, x2, x3, x4, x5, x6, x7, x8⟩ := aM vj.out
  go_wp2_with fail
  go_ret
  exact ⟨by rw [HR.out]; rfl, vd.out⟩
 by_cases c2 : (r.length : Int) ≤ x.col
 ·have HR := Eh (show dN x.op x.col x.v x.w r = false by unfold dN; rw [if_pos (.inr c2)])
  have c2' : x.col ≥ (r.length : Int) := c2
  go_enter Tryz.func157, Tryz.ntmps157
  go_upto_region 1 with fail
  rw [← uW.out]
  clear uW
  generalize w.heap.size = b1 at vj ⊢
  obtain ⟨x0, x1, x2, x3, x4, x5, x6, x7, x8⟩ := aM vj.out
  go_wp2_with fail
  go_ret
  exact ⟨by rw [HR.out]; rfl, vd.out⟩
 obtain ⟨k, hk⟩ : ∃ k : Nat, x.col = (k : Int) := ⟨x.col.toNat, by omega⟩
 have hkl : k < r.length := by omega
 have hkl2 : (k : Int) < (r.length : Int) := by omega
 have hkn : ¬ ((k : Int) ≥ (r.length : Int)) := by omega
 obtain ⟨y, hy⟩ : ∃ y, r[k]? = some y := ⟨r[k], List.getElem?_eq_getElem hkl⟩
 have BB := Eh (hfr y (List.mem_of_getElem? hy))
 obtain ⟨g, og, rfl⟩ : ∃ g o, ra = some ⟨g, o, none⟩ := by
  rcases vk.out.2.2 with ⟨_, _, hv, _, _, _, hc⟩
  cases hv
  rcases hc with h0 | ⟨g, o, h, _⟩
  ·omega
  ·exact ⟨g, o, h⟩
 have yi := Eh hk
 have HY := Eh hy
 obtain ⟨c, hc⟩ : ∃ c, dx y x.v = c := ⟨_, rfl⟩
 obtain ⟨d, hd⟩ : ∃ d, dx y x.w = d := ⟨_, rfl⟩
 have xF := Eh (show dN x.op x.col x.v x.w r = (if x.op = 3 then decide (c = 0) else if x.op = 4 then !decide (c = 0) else if x.op = 5 then decide (c < 0) else if x.op = 6 then decide (c ≤ 0) else if x.op = 7 then decide (0 < c) else if x.op = 8 then decide (0 ≤ c) else decide (0 ≤ c) && decide (d ≤ 0)) by
  unfold dN
  rw [if_neg (by omega)]
  have : r.getD x.col.toNat default = y := by rw [hk, Int.toNat_natCast, List.getD_eq_getElem?_getD, hy]; rfl
  simp only [this, hc, hd])
 have vE := Eh (show ∀ W, Calls Tryz.prog 187 #[y.v, x.v.v] W fun e w' => e = .returned (.int .i64 c) ∧ Kept (fun _ => False) W w' from fun W => hc ▸ ru y x.v BB.out C9.out W)
 have AC := Eh (show ∀ W, Calls Tryz.prog 187 #[y.v, x.w.v] W fun e w' => e = .returned (.int .i64 d) ∧ Kept (fun _ => False) W w' from fun W => hd ▸ ru y x.w BB.out xu.out W)
 clear c1 c2 hk hy hc hd hkl hfr BB C9 xu
 go_enter Tryz.func157, Tryz.ntmps157
 go_upto_region 1 with fail
 rw [← uW.out]
 clear uW
 generalize w.heap.size = b1 at vj ⊢
 obtain ⟨x0, x1, x2, x3, x4, x5, x6, x7, x8⟩ := aM vj.out
 rw [yi.out] at x1
 obtain ⟨y0, y1, y2⟩ := iE vk.out HY.out
 go_upto_region 4 with fail
 obtain ⟨W2, hW2, hk2, hb2⟩ : ∃ W, W = W1.alloc (.cells #[.bool y.t, .int .i64 y.n, .string y.s] 31) ∧ Kept (fun _ => False) W1 W ∧ W.heap[W1.heap.size]? = some (.cells #[.bool y.t, .int .i64 y.n, .string y.s] 31 (0, 0)) := ⟨_, rfl, (Kept.refl _ _).alloc _, aC _ _⟩
 rw [← hW2]
 have vp := Eh (vd.out.trans hk2 (fun _ h => h.elim))
 have vJ := Eh (aB hk2 vj.out)
 have yz := Eh hb2
 clear hW2 hk2 hb2 x0 x1 x2 x3 x4 x5 x6 x7 x8 y0 y1 y2 vj vd vk
 generalize W1.heap.size = b3 at *
 obtain ⟨x0, x1, x2, x3, x4, x5, x6, x7, x8⟩ := aM vJ.out
 obtain ⟨y0, y1, y2, _⟩ := gG yz.out
 have wC := Eh (vE.out W2)
 go_upto_region 5 with (go_at_call 187; refine wC.out.mono ?_; rintro e2 w2 ⟨rfl, hk2⟩; have vD := Eh hk2; clear hk2 wC x0 x1 x2 x3 x4 x5 x6 x7 x8 y0 y1 y2)
 obtain ⟨x0, x1, x2, x3, x4, x5, x6, x7, x8⟩ := aM (aB vD.out vJ.out)
 obtain ⟨y0, y1, y2, _⟩ := gG (aB vD.out yz.out)
 have vW := Eh (vp.out.trans vD.out (fun _ h => h.elim))
 clear vp vD vJ yz vE
 by_cases p3 : x.op = 3
 ·have HO := Eh p3
  clear p3
  rw [HO.out] at x0
  go_wp2_with fail
  go_ret
  exact ⟨by rw [xF.out, HO.out]; simp [bne, Int.not_lt, beq_iff_eq]; try rfl, vW.out⟩
 by_cases p4 : x.op = 4
 ·have HO := Eh p4
  clear p3 p4
  rw [HO.out] at x0
  go_wp2_with fail
  go_ret
  exact ⟨by rw [xF.out, HO.out]; simp [bne, Int.not_lt, beq_iff_eq]; try rfl, vW.out⟩
 by_cases p5 : x.op = 5
 ·have HO := Eh p5
  clear p3 p4 p5
  rw [HO.out] at x0
  go_wp2_with fail
  go_ret
  exact ⟨by rw [xF.out, HO.out]; simp [bne, Int.not_lt, beq_iff_eq]; try rfl, vW.out⟩
 by_cases p6 : x.op = 6
 ·have HO := Eh p6
  clear p3 p4 p5 p6
  rw [HO.out] at x0
  go_wp2_with fail
  go_ret
  exact ⟨by rw [xF.out, HO.out]; simp [bne, Int.not_lt, beq_iff_eq]; try rfl, vW.out⟩
 by_cases p7 : x.op = 7
 ·have HO := Eh p7
  clear p3 p4 p5 p6 p7
  rw [HO.out] at x0
  go_wp2_with fail
  go_ret
  exact ⟨by rw [xF.out, HO.out]; simp [bne, Int.not_lt, beq_iff_eq]; try rfl, vW.out⟩
 by_cases p8 : x.op = 8
 ·have HO := Eh p8
  clear p3 p4 p5 p6 p7 p8
  rw [HO.out] at x0
  go_wp2_with fail
  go_ret
  exact ⟨by rw [xF.out, HO.out]; simp [bne, Int.not_lt, beq_iff_eq]; try rfl, vW.out⟩
 have n3 : (x.op == 3) = false := by simpa using p3
 have n4 : (x.op == 4) = false := by simpa using p4
 have n5 : (x.op == 5) = false := by simpa using p5
 have n6 : (x.op == 6) = false := by simpa using p6
 have n7 : (x.op == 7) = false := by simpa using p7
 have n8 : (x.op == 8) = false := by simpa using p8
 have HR := Eh (show dN x.op x.col x.v x.w r = (decide (0 ≤ c) && decide (d ≤ 0)) by rw [xF.out, if_neg p3, if_neg p4, if_neg p5, if_neg p6, if_neg p7, if_neg p8])
 clear p3 p4 p5 p6 p7 p8
 by_cases hc0 : 0 ≤ c
 ·have hc1 : c ≥ 0 := hc0
  have Bg := Eh (AC.out w2)
  go_wp2_with (go_at_call 187; refine Bg.out.mono ?_; rintro e3 w3 ⟨rfl, hk3⟩; have vD := Eh (vW.out.trans hk3 (fun _ h => h.elim)); clear hk3 Bg)
  go_ret
  exact ⟨by rw [HR.out]; simp [hc0], vD.out⟩
 ·have hc1 : ¬ c ≥ 0 := hc0
  go_wp2_with fail
  go_ret
  exact ⟨by rw [HR.out, decide_eq_false (Int.not_le.mpr hc0)]; rfl, vW.out⟩
inductive PredFit : PredT → Prop
 | mk (op col : Int) (v w : Val) (l : List PredT) (hv : v.fits) (hw : w.fits) (hl : ∀ q ∈ l, PredFit q) : PredFit (.mk op col v w l)
def RHoldsC (w : World) (rv : Value) (e : PredE) (p : Bool) : Prop := ∀ W, Kept (fun _ => False) w W → Calls Tryz.prog 113 #[.agg e.cells.toArray, rv] W fun r W' => r = .returned (.bool p) ∧ Kept (fun _ => False) W W'
def lw (l : List Bool) : Bool := l.all id
def lM (l : List Bool) : Bool := l.any id
def fL (l : List Bool) : Bool := l.headD false
theorem sA (l : List Bool) (b : Bool) : lw (l ++ [b]) = (lw l && b) := by unfold lw; simp
theorem sr (l : List Bool) (b : Bool) : lM (l ++ [b]) = (lM l || b) := by unfold lM; simp
theorem j0 {l : List Bool} {j : Nat} {b : Bool} (h : l[j]? = some b) : l.take (j + 1) = l.take j ++ [b] := by rw [List.take_add_one, h]; rfl
theorem sG : ∀ (p : PredT) (x : PredE) (w : World) (rv : Value) (r : List Val), x.p = p → PredFit p → (∀ v ∈ r, v.fits) → PredsRd w (.slice x.la x.ln x.lc) x.subs → da w rv r →
  Calls Tryz.prog 113 #[.agg x.cells.toArray, rv] w fun e w' => e = .returned (.bool (x.p.holds r)) ∧ Kept (fun _ => False) w w' := by
 refine PredT.ind fun op col v w0 l ih x w rv r hx hfit hfr h1 h2 => ?_
 have hl : x.subs = l := by unfold PredE.p at hx; cases hx; rfl
 have hxv : x.v = v := by unfold PredE.p at hx; cases hx; rfl
 have hxw : x.w = w0 := by unfold PredE.p at hx; cases hx; rfl
 obtain ⟨hfv, hfw, hfl⟩ : v.fits ∧ w0.fits ∧ ∀ q ∈ l, PredFit q := by cases hfit with | mk _ _ _ _ _ a b c => exact ⟨a, b, c⟩
 rw [← hxv] at hfv
 rw [← hxw] at hfw
 obtain ⟨ra, rn, rc, rfl⟩ : ∃ a n c, rv = .slice a n c := by obtain ⟨_, _, a, c, h, _⟩ := h2; exact ⟨a, _, c, h⟩
 obtain ⟨W1, hW1, hk1, hb1⟩ : ∃ W, W = w.alloc (.cells x.cells.toArray tPr) ∧ Kept (fun _ => False) w W ∧ W.heap[w.heap.size]? = some (.cells x.cells.toArray tPr (0, 0)) := ⟨_, rfl, (Kept.refl _ _).alloc _, aC _ _⟩
 obtain ⟨es, he, hsub, hes⟩ : ∃ es : List PredE, Rd W1 9 (.slice x.la x.ln x.lc) es.length (es.flatMap PredE.cells) ∧ x.subs = es.map PredE.p ∧ ∀ e ∈ es, RHoldsC W1 (.slice ra rn rc) e (e.p.holds r) := by
  have k1 := h1.kept hk1
  have hr1 := h2.kept hk1 (fun _ _ h => h)
  generalize hxs : x.subs = xs at k1 hl
  cases k1 with
  | mk _ es he hes =>
   refine ⟨es, he, rfl, fun e hee W hW => ?_⟩
   have hm : e.p ∈ l := by rw [← hl]; exact List.mem_map.2 ⟨e, hee, rfl⟩
   exact ih e.p hm e W _ r rfl (hfl _ hm) hfr ((hes e hee).kept hW) (hr1.kept hW (fun _ _ h => h))
 have HP := Eh (show x.p.holds r = _ from PredT.holds_eq x.op x.col x.v x.w x.subs r)
 rw [hsub] at HP
 have wL := Eh (h2.kept hk1 (fun _ _ h => h))
 have uW := Eh hW1
 have vd := Eh hk1
 have vj := Eh hb1
 obtain ⟨_, hml, _, _, hsl, _⟩ := id he
 unfold maxLen at hml
 have vK := Eh (Value.slice.inj hsl).2.1
 have HE := Eh he
 have yy := Eh hes
 have xF := Eh (tA (w := W1) x hfv hfw hfr wL.out)
 clear h1 h2 hW1 hk1 hb1 hx hl ih he hes hsub hsl hfit hfv hfw hfl hxv hxw hfr wL
 obtain ⟨bs, hbs⟩ : ∃ bs : List Bool, bs = es.map (fun e => e.p.holds r) := ⟨_, rfl⟩
 have Db := Eh hbs
 have AD := Eh (show x.p.holds r = if x.op = 1 then true else if 3 ≤ x.op ∧ x.op ≤ 9 then dN x.op x.col x.v x.w r else if x.op = 10 then !(fL bs) else if x.op = 11 then lw bs else if x.op = 12 then lM bs else false by
  rw [HP.out, hbs]
  unfold fL lw lM
  simp only [List.map_map, List.all_map, List.any_map, Function.comp_def, id])
 clear hbs HP
 go_enter Tryz.func113, Tryz.ntmps113
 go_upto_region 1 with fail
 rw [← uW.out]
 clear uW
 generalize w.heap.size = b1 at vj ⊢
 obtain ⟨x0, x1, x2, x3, x4, x5, x6, x7, x8⟩ := aM vj.out
 by_cases o2 : 3 ≤ x.op ∧ x.op ≤ 9
 ·have HL := Eh (bD (ak vj.out))
  have HR := Eh (show x.p.holds r = dN x.op x.col x.v x.w r by rw [AD.out, if_neg (by omega), if_pos o2])
  have g1 : x.op ≥ 3 := o2.1
  have g2 := o2.2
  clear AD yy HE
  go_wp2_with (first | (refine ai rfl _ _ rfl _ _ rfl _ HL.out ?_) | (go_at_call 157; refine xF.out.mono ?_; rintro e1 w1 ⟨rfl, hk2⟩; have vp := Eh (vd.out.trans hk2 (fun _ h => h.elim)); clear hk2 xF HL x0 x1 x2 x3 x4 x5 x6 x7 x8))
  go_ret
  exact ⟨by rw [HR.out]; rfl, vp.out⟩
 have xC := Eh o2
 clear xF
 obtain ⟨N, hN⟩ : ∃ N, es.length = N := ⟨_, rfl⟩
 have HN := Eh hN
 rw [hN] at vK HE hml
 have yS := Eh (show bs.length = N by rw [Db.out, List.length_map, hN])
 clear hN
 have g : ¬ (x.op ≥ 3 ∧ x.op ≤ 9) := o2
 rcases (show x.op < 3 ∨ (x.op ≥ 3 ∧ 9 < x.op) by omega) with g1 | ⟨g1, g2⟩
 all_goals
  clear g o2
  rw [vK.out] at x8
  go_wp2_with fail
  go_loopw [5, 6, 7, 8] (fun a s f i wr => ∃ j : Nat, i = .int .i64 j ∧ a = .bool (lw (bs.take j)) ∧ s = .bool (lM (bs.take j)) ∧ f = .bool (fL (bs.take j)) ∧ j ≤ N ∧ Kept (fun _ => False) W1 wr) (fun _ _ _ i _ => N - (intOf i).toNat)
  case atStart => exact ⟨0, rfl, rfl, rfl, rfl, by omega, Kept.refl _ _⟩
  case round =>
   obtain ⟨j, rfl, rfl, rfl, rfl, hj, hk⟩ := hrel
   have HK := Eh hk
   clear hk x0 x1 x2 x3 x4 x5 x6 x7 x8
   obtain ⟨x0, _, _, _, _, _, _, _, x8⟩ := aM (aB HK.out vj.out)
   rw [vK.out] at x8
   by_cases hlt : j < N
   ·have hji : (j : Int) < (N : Int) := by omega
    obtain ⟨e, he⟩ : ∃ e, es[j]? = some e := ⟨es[j]'(by rw [HN.out]; exact hlt), List.getElem?_eq_getElem _⟩
    obtain ⟨g1, o1, hg1, hr1⟩ := aF PredE.len (by have := HE.out.kept HK.out (fun _ _ h => h); rw [vK.out] at this; exact this) he HN.out
    rw [hg1] at x8
    have vG := Eh (bD (w := wr) hr1)
    have HC := Eh (yy.out e (List.mem_of_getElem? he) wr HK.out)
    obtain ⟨b, hb⟩ : ∃ b, e.p.holds r = b := ⟨_, rfl⟩
    rw [hb] at HC
    have hbj : bs[j]? = some b := by rw [Db.out, List.getElem?_map, he, ← hb]; rfl
    have HA := Eh (show lw (bs.take (j + 1)) = (lw (bs.take j) && b) by rw [j0 hbj, sA])
    have HY := Eh (show lM (bs.take (j + 1)) = (lM (bs.take j) || b) by rw [j0 hbj, sr])
    have HF := Eh (show fL (bs.take (j + 1)) = if j = 0 then b else fL (bs.take j) by
     rw [j0 hbj]
     rcases j with _ | j
     ·rfl
     ·rcases bs with _ | ⟨b0, bs⟩
      ·cases hbj
      ·rfl)
    clear he hb hbj hg1 hr1
    obtain ⟨va, hva⟩ : ∃ v, lw (bs.take j) = v := ⟨_, rfl⟩
    obtain ⟨vs, hvs⟩ : ∃ v, lM (bs.take j) = v := ⟨_, rfl⟩
    obtain ⟨vf, hvf⟩ : ∃ v, fL (bs.take j) = v := ⟨_, rfl⟩
    rw [hva] at HA ⊢
    rw [hvs] at HY ⊢
    rw [hvf] at HF ⊢
    clear hva hvs hvf
    go_upto_region 10 with (first | (refine ai rfl _ _ rfl _ _ rfl _ vG.out ?_) | (go_at_call 113; refine HC.out.mono ?_; rintro r3 w3 ⟨rfl, hk3⟩; have vD := Eh (HK.out.trans hk3 (fun _ h => h.elim)); clear hk3 HC vG x0 x8))
    rcases j with _ | j
    ·have zv := Eh (show fL (bs.take (0 + 1)) = b by rw [HF.out, if_pos rfl])
     clear HF
     cases va <;> cases vs <;> cases b
     all_goals
      go_wp2_with fail
      go_roundw
      case rel => exact ⟨0 + 1, by go_num, by rw [HA.out]; rfl, by rw [HY.out]; rfl, by rw [zv.out], by omega, vD.out⟩
      case measure => simp [intOf]; omega
    ·have zv := Eh (show fL (bs.take (j + 1 + 1)) = vf by rw [HF.out, if_neg (by omega)])
     clear HF
     have hjz : (((j + 1 : Nat) : Int) == 0) = false := by simp; omega
     cases va <;> cases vs <;> cases b
     all_goals
      go_wp2_with fail
      go_roundw
      case rel => exact ⟨j + 1 + 1, by go_num, by rw [HA.out]; rfl, by rw [HY.out]; rfl, by rw [zv.out], by omega, vD.out⟩
      case measure => simp [intOf]; omega
   ·have hji : ¬ ((j : Int) < (N : Int)) := by omega
    obtain rfl : j = N := by omega
    have HT := Eh (show bs.take j = bs from List.take_of_length_le (Nat.le_of_eq yS.out))
    rw [HT.out]
    have Bh := Eh (show x.p.holds r = if x.op = 1 then true else if x.op = 10 then !(fL bs) else if x.op = 11 then lw bs else if x.op = 12 then lM bs else false by rw [AD.out, if_neg xC.out])
    obtain ⟨va, hva⟩ : ∃ v, lw bs = v := ⟨_, rfl⟩
    obtain ⟨vs, hvs⟩ : ∃ v, lM bs = v := ⟨_, rfl⟩
    obtain ⟨vf, hvf⟩ : ∃ v, fL bs = v := ⟨_, rfl⟩
    rw [hva, hvs, hvf] at Bh ⊢
    clear hva hvs hvf HT AD
    by_cases p1 : x.op = 1
    ·have HO := Eh p1
     rw [p1] at x0
     clear p1 g1
     go_wp2_with fail
     go_ret
     exact ⟨by rw [Bh.out, HO.out]; rfl, vd.out.trans HK.out (fun _ h => h.elim)⟩
    by_cases p2 : x.op = 10
    ·have HO := Eh p2
     rw [p2] at x0
     clear p1 p2 g1
     go_wp2_with fail
     go_ret
     exact ⟨by rw [Bh.out, HO.out]; rfl, vd.out.trans HK.out (fun _ h => h.elim)⟩
    by_cases p3 : x.op = 11
    ·have HO := Eh p3
     rw [p3] at x0
     clear p1 p2 p3 g1
     go_wp2_with fail
     go_ret
     exact ⟨by rw [Bh.out, HO.out]; rfl, vd.out.trans HK.out (fun _ h => h.elim)⟩
    by_cases p4 : x.op = 12
    ·have HO := Eh p4
     rw [p4] at x0
     clear p1 p2 p3 p4 g1
     go_wp2_with fail
     go_ret
     exact ⟨by rw [Bh.out, HO.out]; rfl, vd.out.trans HK.out (fun _ h => h.elim)⟩
    have q1 : (x.op == 1) = false := by simpa using p1
    have q2 : (x.op == 10) = false := by simpa using p2
    have q3 : (x.op == 11) = false := by simpa using p3
    have q4 : (x.op == 12) = false := by simpa using p4
    have HR := Eh (show x.p.holds r = false by rw [Bh.out, if_neg p1, if_neg p2, if_neg p3, if_neg p4])
    clear p1 p2 p3 p4
    go_wp2_with fail
    go_ret
    exact ⟨by rw [HR.out]; rfl, vd.out.trans HK.out (fun _ h => h.elim)⟩
theorem eC {w : World} {x y : ClmE} (hx : RdCl w x) (hy : RdCl w y) : Calls Tryz.prog 26 #[.agg x.cells.toArray, .agg y.cells.toArray] w fun r w' => r = .returned (.bool (RC.same x.c y.c)) ∧ Kept (fun _ => False) w w' := by
 obtain ⟨W1, hW1, hk1, hb1, hb2⟩ := dV w x.cells.toArray y.cells.toArray tCl tCl
 have uW := Eh hW1
 have vd := Eh hk1
 have vj := Eh hb1
 have vm := Eh hb2
 have HX := Eh (hx.2.kept hk1)
 have HY := Eh (hy.2.kept hk1)
 have HP := Eh (show RC.same x.c y.c = (decide (x.kind = y.kind) && decide (x.table = y.table) && (if x.kind = 1 then true else if x.kind = 2 then decide (x.key = y.key) else if x.kind = 3 then cl x.pr.p y.pr.p else false)) from rfl)
 clear hW1 hk1 hb1 hb2 hx hy
 by_cases hk : x.kind = y.kind
 ·have k0 : (x.kind != y.kind) = false := by simpa using hk
  by_cases ht : x.table = y.table
  ·have t0 : (x.table != y.table) = false := by simpa using ht
   by_cases h1 : x.kind = 1
   ·have a1 : (x.kind == 1) = true := by simpa using h1
    have HR := Eh (show RC.same x.c y.c = true by rw [HP.out, ← hk, h1, ht]; simp)
    clear hk ht h1 HP HX HY
    go_enter Tryz.func26, Tryz.ntmps26
    go_upto_region 1 with fail
    rw [← uW.out]
    clear uW
    generalize w.heap.size + 1 = b2 at *
    generalize w.heap.size = b1 at *
    obtain ⟨x0, x1, x3, x4, x5⟩ := a7 vj.out
    obtain ⟨y0, y1, y3, y4, y5⟩ := a7 vm.out
    go_wp2_with fail
    go_ret
    exact ⟨by rw [HR.out]; rfl, vd.out⟩
   ·have a1 : (x.kind == 1) = false := by simpa using h1
    by_cases h2 : x.kind = 2
    ·have a2 : (x.kind == 2) = true := by simpa using h2
     have HR := Eh (show RC.same x.c y.c = cx x.key.t x.key.n x.key.s y.key.t y.key.n y.key.s by rw [HP.out, ← hk, h2, ht, bR]; simp)
     clear hk ht h1 h2 HP HX HY
     go_enter Tryz.func26, Tryz.ntmps26
     go_upto_region 1 with fail
     rw [← uW.out]
     clear uW
     generalize w.heap.size + 1 = b2 at *
     generalize w.heap.size = b1 at *
     obtain ⟨x0, x1, x3, x4, x5⟩ := a7 vj.out
     obtain ⟨y0, y1, y3, y4, y5⟩ := a7 vm.out
     go_wp2_with fail
     go_ret
     exact ⟨by rw [HR.out]; rfl, vd.out⟩
    ·have a2 : (x.kind == 2) = false := by simpa using h2
     by_cases h3 : x.kind = 3
     ·have a3 : (x.kind == 3) = true := by simpa using h3
      have HR := Eh (show RC.same x.c y.c = cl x.pr.p y.pr.p by rw [HP.out, ← hk, h3, ht]; simp)
      have vt := Eh (bD (eX vj.out))
      have vH := Eh (bD (eX vm.out))
      have Br := Eh (mP x.pr.p x.pr y.pr W1 rfl HX.out HY.out)
      clear hk ht h1 h2 h3 HP
      go_enter Tryz.func26, Tryz.ntmps26
      go_upto_region 1 with fail
      rw [← uW.out]
      clear uW
      generalize w.heap.size + 1 = b2 at *
      generalize w.heap.size = b1 at *
      obtain ⟨x0, x1, x3, x4, x5⟩ := a7 vj.out
      obtain ⟨y0, y1, y3, y4, y5⟩ := a7 vm.out
      go_wp2_with (first | (refine ai rfl _ _ rfl _ _ rfl _ vt.out ?_) | (refine ai rfl _ _ rfl _ _ rfl _ vH.out ?_) | (go_at_call 63; refine Br.out.mono ?_; rintro r3 w3 ⟨rfl, hk3⟩; have vD := Eh (vd.out.trans hk3 (fun _ h => h.elim)); clear hk3 Br vt vH x0 x1 x3 x4 x5 y0 y1 y3 y4 y5))
      go_ret
      exact ⟨by rw [HR.out]; rfl, vD.out⟩
     ·have a3 : (x.kind == 3) = false := by simpa using h3
      have HR := Eh (show RC.same x.c y.c = false by rw [HP.out, if_neg h1, if_neg h2, if_neg h3]; simp)
      clear hk ht h1 h2 h3 HP HX HY
      go_enter Tryz.func26, Tryz.ntmps26
      go_upto_region 1 with fail
      rw [← uW.out]
      clear uW
      generalize w.heap.size + 1 = b2 at *
      generalize w.heap.size = b1 at *
      obtain ⟨x0, x1, x3, x4, x5⟩ := a7 vj.out
      obtain ⟨y0, y1, y3, y4, y5⟩ := a7 vm.out
      go_wp2_with fail
      go_ret
      exact ⟨by rw [HR.out]; rfl, vd.out⟩
  ·have t0 : (x.table != y.table) = true := by simpa using ht
   have HR := Eh (show RC.same x.c y.c = false by rw [HP.out]; simp [ht])
   clear hk ht HP HX HY
   go_enter Tryz.func26, Tryz.ntmps26
   go_upto_region 1 with fail
   rw [← uW.out]
   clear uW
   generalize w.heap.size + 1 = b2 at *
   generalize w.heap.size = b1 at *
   obtain ⟨x0, x1, x3, x4, x5⟩ := a7 vj.out
   obtain ⟨y0, y1, y3, y4, y5⟩ := a7 vm.out
   go_wp2_with fail
   go_ret
   exact ⟨by rw [HR.out]; rfl, vd.out⟩
 ·have k0 : (x.kind != y.kind) = true := by simpa using hk
  have HR := Eh (show RC.same x.c y.c = false by rw [HP.out]; simp [hk])
  clear hk HP HX HY
  go_enter Tryz.func26, Tryz.ntmps26
  go_upto_region 1 with fail
  rw [← uW.out]
  clear uW
  generalize w.heap.size + 1 = b2 at *
  generalize w.heap.size = b1 at *
  obtain ⟨x0, x1, x3, x4, x5⟩ := a7 vj.out
  obtain ⟨y0, y1, y3, y4, y5⟩ := a7 vm.out
  go_wp2_with fail
  go_ret
  exact ⟨by rw [HR.out]; rfl, vd.out⟩
def bV (c : Clm) : Prop := PredFit c.pred ∧ ∀ r ∈ c.imgs, ∀ v ∈ r, v.fits
def gY (p : PredT) (r : List Val) : Bool := decide (0 < r.length) && p.holds r
theorem dR {α : Type} (q : α → Bool) {l : List α} {j : Nat} {x : α} (h : l[j]? = some x) : (l.take (j + 1)).any q = ((l.take j).any q || q x) := by
 rw [List.take_add_one, h]; simp
theorem jJ {α : Type} (q : α → Bool) {l : List α} {j : Nat} {x : α} (h : l[j]? = some x) (hq : q x = true) : l.any q = true := List.any_eq_true.2 ⟨x, List.mem_of_getElem? h, hq⟩
theorem mU {w : World} {x y : ClmE} (hx : RdCl w x) (hy : RdCl w y) (hfx : PredFit x.pr.p) (hfy : ∀ r ∈ y.imgs, ∀ v ∈ r, v.fits) : Calls Tryz.prog 72 #[.agg x.cells.toArray, .agg y.cells.toArray] w fun r w' => r = .returned (.bool (ci x.c y.c)) ∧ Kept (fun _ => False) w w' := by
 obtain ⟨W1, hW1, hk1, hb1, hb2⟩ := dV w x.cells.toArray y.cells.toArray tCl tCl
 have HP := Eh (show ci x.c y.c = (decide (y.mode = 6) && y.imgs.any (gY x.pr.p)) from rfl)
 have uW := Eh hW1
 have vd := Eh hk1
 have vj := Eh hb1
 have vm := Eh hb2
 have HX := Eh (hx.2.kept hk1)
 have HY := Eh (hy.1.kept hk1)
 have BC := Eh hfx
 have BB := Eh hfy
 obtain ⟨ya, yc, hsl, n1, m1, _⟩ := hy.1.shape
 have yT := Eh hsl
 clear hW1 hk1 hb1 hb2 hx hy hfx hfy hsl
 by_cases hm : y.mode = 6
 ·have HM := Eh hm
  have HR := Eh (show ci x.c y.c = y.imgs.any (gY x.pr.p) by rw [HP.out, decide_eq_true hm]; rfl)
  clear HP hm
  obtain ⟨N, hN⟩ : ∃ N, y.imgs.length = N := ⟨_, rfl⟩
  have HN := Eh hN
  rw [yT.out] at HY
  rw [hN] at HY yT n1 m1
  clear hN
  go_enter Tryz.func72, Tryz.ntmps72
  go_upto_region 1 with fail
  rw [← uW.out]
  clear uW
  generalize w.heap.size + 1 = b2 at *
  generalize w.heap.size = b1 at *
  obtain ⟨y2, y6⟩ := aV vm.out
  rw [HM.out] at y2
  rw [yT.out] at y6
  go_wp2_with fail
  go_loopw [5] (fun i wr => ∃ j : Nat, i = .int .i64 j ∧ j ≤ N ∧ (y.imgs.take j).any (gY x.pr.p) = false ∧ Kept (fun _ => False) W1 wr) (fun i _ => N - (intOf i).toNat)
  case atStart => exact ⟨0, rfl, by omega, rfl, Kept.refl _ _⟩
  case round =>
   obtain ⟨j, rfl, hj, hn, hk⟩ := hrel
   have vT := Eh hn
   have HK := Eh hk
   clear hn hk y2 y6
   have y6 := (aV (aB HK.out vm.out)).2
   rw [yT.out] at y6
   by_cases hlt : j < N
   ·have hji : (j : Int) < (N : Int) := by omega
    obtain ⟨r, hr⟩ : ∃ r, y.imgs[j]? = some r := ⟨y.imgs[j]'(by rw [HN.out]; exact hlt), List.getElem?_eq_getElem _⟩
    obtain ⟨g2, o2, ra2, rc2, hg2, z2, hrow2, hl2, hrc2⟩ := fd (HY.out.kept HK.out) hr
    have yE := Eh hr
    rw [hg2] at y6
    have yj := Eh (bD (w := wr.drew) (eX (w := wr.drew) (aB HK.out.drew vj.out)))
    have HC := Eh (sG x.pr.p x.pr wr.drew _ r rfl BC.out (BB.out r (List.mem_of_getElem? hr)) (HX.out.kept HK.out.drew) (show da wr.drew _ r from hrow2))
    obtain ⟨h, hh⟩ : ∃ h, x.pr.p.holds r = h := ⟨_, rfl⟩
    rw [hh] at HC
    have HH := Eh hh
    have HG := Eh hg2
    have HZ := Eh z2
    clear hr hrow2 hh hg2
    go_upto_region 6 with fail
    refine ag [(0, false, 7), (1, false, 7), (2, false, 7), (3, false, 7), (4, false, 7), (5, false, 7), (6, false, 7), (7, true, 0), (8, false, 999)] (by kernel_rfl) (by kernel_rfl) ?_
    iterate 7 (refine af rfl rfl (fun K hK => ?_); (first | ((refine aj _ _ rfl _ _ rfl _ yj.out ?_); go_simp) | go_simp); refine hK _ ?_; clear hK K)
    refine al rfl ?_
    refine aw rfl (fun K hK => ?_)
    go_simp
    refine HC.out.mono ?_
    rintro e3 w3 ⟨rfl, hk3⟩
    have vD := Eh (HK.out.drew.trans hk3 (fun _ h => h.elim))
    clear hk3 HC yj y6 z2 HZ HG
    refine hK _ _ ?_
    clear hK K
    refine wpList_nil ?_
    refine And.intro ?_ ?_
    ·go_simp
    refine af rfl rfl (fun K hK => ?_); (first | ((refine aj _ _ rfl _ _ rfl _ yj.out ?_); go_simp) | go_simp); refine hK _ ?_; clear hK K
    refine ar ?_
    obtain ⟨g2, o2, ra2, rc2, hg2, z2, hrow2, hl2, hrc2⟩ := fd (HY.out.kept vD.out) yE.out
    have y6 := (aV (aB vD.out vm.out)).2
    rw [yT.out, hg2] at y6
    clear hg2 hrow2
    by_cases h0 : 0 < r.length
    ·have h0i : (0 : Int) < (r.length : Int) := by omega
     have HQ := Eh (show gY x.pr.p r = h by unfold gY; rw [decide_eq_true h0, HH.out]; rfl)
     clear h0
     cases h
     ·generalize r.length = rl at *
      go_wp2_with fail
      go_roundw
      case rel => exact ⟨j + 1, by go_num, by omega, by rw [dR _ yE.out, vT.out, HQ.out]; rfl, vD.out⟩
      case measure => simp [intOf]; omega
     ·generalize r.length = rl at *
      go_wp2_with fail
      go_ret
      exact ⟨by rw [HR.out, jJ _ yE.out HQ.out]; rfl, vd.out.trans vD.out (fun _ h => h.elim)⟩
    ·have h0i : ¬ ((0 : Int) < (r.length : Int)) := by omega
     have HQ := Eh (show gY x.pr.p r = false by unfold gY; rw [decide_eq_false h0]; rfl)
     clear h0
     generalize r.length = rl at *
     go_wp2_with fail
     go_roundw
     case rel => exact ⟨j + 1, by go_num, by omega, by rw [dR _ yE.out, vT.out, HQ.out]; rfl, vD.out⟩
     case measure => simp [intOf]; omega
   ·have hji : ¬ ((j : Int) < (N : Int)) := by omega
    obtain rfl : j = N := by omega
    have HF := Eh (show y.imgs.any (gY x.pr.p) = false by have := vT.out; rw [List.take_of_length_le (Nat.le_of_eq HN.out)] at this; exact this)
    go_wp2_with fail
    go_ret
    exact ⟨by rw [HR.out, HF.out]; rfl, vd.out.trans HK.out (fun _ h => h.elim)⟩
 ·have HR := Eh (show ci x.c y.c = false by rw [HP.out, decide_eq_false hm]; rfl)
  have hq : (y.mode != 6) = true := by simpa using hm
  clear HP hm
  go_enter Tryz.func72, Tryz.ntmps72
  go_upto_region 1 with fail
  rw [← uW.out]
  clear uW
  generalize w.heap.size + 1 = b2 at *
  generalize w.heap.size = b1 at *
  obtain ⟨y2, y6⟩ := aV vm.out
  go_wp2_with fail
  go_ret
  exact ⟨by rw [HR.out]; rfl, vd.out⟩
theorem lr {w : World} {x y : ClmE} (hx : RdCl w x) (hy : RdCl w y) (hfx : bV x.c) (hfy : bV y.c) : Calls Tryz.prog 36 #[.agg x.cells.toArray, .agg y.cells.toArray] w fun r w' => r = .returned (.bool (RC.conf x.c y.c)) ∧ Kept (fun _ => False) w w' := by
 obtain ⟨W1, hW1, hk1, hb1, hb2⟩ := dV w x.cells.toArray y.cells.toArray tCl tCl
 have HP := Eh (show RC.conf x.c y.c = (decide (x.table = y.table) && (if x.kind = 1 ∧ y.kind = 1 then !cR x.mode y.mode else if x.kind = 2 ∧ y.kind = 2 then decide (x.key = y.key) && !cR x.mode y.mode else if x.kind = 3 ∧ y.kind = 2 then ci x.c y.c else if x.kind = 2 ∧ y.kind = 3 then ci y.c x.c else false)) from rfl)
 have uW := Eh hW1
 have vd := Eh hk1
 have vj := Eh hb1
 have vm := Eh hb2
 have HM := Eh (show ∀ W, Kept (fun _ => False) W1 W → Calls Tryz.prog 72 #[.agg x.cells.toArray, .agg y.cells.toArray] W fun r w' => r = .returned (.bool (ci x.c y.c)) ∧ Kept (fun _ => False) W w' from fun W hW => mU ((hx.kept hk1).kept hW) ((hy.kept hk1).kept hW) hfx.1 hfy.2)
 have HN := Eh (show ∀ W, Kept (fun _ => False) W1 W → Calls Tryz.prog 72 #[.agg y.cells.toArray, .agg x.cells.toArray] W fun r w' => r = .returned (.bool (ci y.c x.c)) ∧ Kept (fun _ => False) W w' from fun W hW => mU ((hy.kept hk1).kept hW) ((hx.kept hk1).kept hW) hfy.1 hfx.2)
 clear hW1 hk1 hb1 hb2 hx hy hfx hfy
 by_cases ht : x.table = y.table
 ·have t0 : (x.table != y.table) = false := by simpa using ht
  have xR := Eh (show ∀ W, Calls Tryz.prog 71 #[.int .i64 x.mode, .int .i64 y.mode] W fun e w' => e = .returned (.bool (cR x.mode y.mode)) ∧ Kept (fun _ => False) W w' from fun W => th x.mode y.mode W)
  obtain ⟨ff, hff⟩ : ∃ f, cR x.mode y.mode = f := ⟨_, rfl⟩
  rw [hff] at xR HP
  clear hff
  have zb := Eh (show RC.conf x.c y.c = (if x.kind = 1 ∧ y.kind = 1 then !ff else if x.kind = 2 ∧ y.kind = 2 then decide (x.key = y.key) && !ff else if x.kind = 3 ∧ y.kind = 2 then ci x.c y.c else if x.kind = 2 ∧ y.kind = 3 then ci y.c x.c else false) by rw [HP.out, decide_eq_true ht]; rfl)
  clear HP ht
  go_enter Tryz.func36, Tryz.ntmps36
  go_upto_region 1 with fail
  rw [← uW.out]
  clear uW
  generalize w.heap.size + 1 = b2 at *
  generalize w.heap.size = b1 at *
  obtain ⟨x0, x1, x3, x4, x5⟩ := a7 vj.out
  obtain ⟨y0, y1, y3, y4, y5⟩ := a7 vm.out
  obtain ⟨x2, x6⟩ := aV vj.out
  obtain ⟨y2, y6⟩ := aV vm.out
  have HF := Eh (xR.out W1)
  go_upto_region 4 with (go_at_call 71; refine HF.out.mono ?_; rintro r2 w2 ⟨rfl, hk2⟩; have vp := Eh hk2; clear hk2 HF x0 x1 x2 x3 x4 x5 x6 y0 y1 y2 y3 y4 y5 y6)
  obtain ⟨x0, x1, x3, x4, x5⟩ := a7 (aB vp.out vj.out)
  obtain ⟨y0, y1, y3, y4, y5⟩ := a7 (aB vp.out vm.out)
  have vt := Eh (az (ak (aB vp.out vj.out)))
  have vH := Eh (az (ak (aB vp.out vm.out)))
  have Ct := Eh (HM.out w2 vp.out)
  have zz := Eh (HN.out w2 vp.out)
  have vW := Eh (vd.out.trans vp.out (fun _ h => h.elim))
  clear vd vp vj vm HM HN xR
  by_cases h11 : x.kind = 1 ∧ y.kind = 1
  ·obtain ⟨h1, h2⟩ := h11
   have HR := Eh (show RC.conf x.c y.c = !ff by rw [zb.out, h1, h2]; rfl)
   rw [h1] at x0
   rw [h2] at y0
   clear h1 h2 zb
   cases ff
   all_goals
    go_wp2_with fail
    go_ret
    exact ⟨by rw [HR.out]; rfl, vW.out⟩
  by_cases h22 : x.kind = 2 ∧ y.kind = 2
  ·obtain ⟨h1, h2⟩ := h22
   rw [h1] at x0
   rw [h2] at y0
   have AB := Eh (show RC.conf x.c y.c = (decide (x.key = y.key) && !ff) by rw [zb.out, h1, h2]; rfl)
   clear h1 h2 zb
   cases hk : decide (x.key = y.key)
   ·have HR := Eh (show RC.conf x.c y.c = false by rw [AB.out, hk]; rfl)
    have q : cx x.key.t x.key.n x.key.s y.key.t y.key.n y.key.s = false := by rw [bR]; exact hk
    clear hk AB
    go_wp2_with fail
    go_ret
    exact ⟨by rw [HR.out]; rfl, vW.out⟩
   ·have HR := Eh (show RC.conf x.c y.c = !ff by rw [AB.out, hk]; rfl)
    have q : cx x.key.t x.key.n x.key.s y.key.t y.key.n y.key.s = true := by rw [bR]; exact hk
    clear hk AB
    cases ff
    all_goals
     go_wp2_with fail
     go_ret
     exact ⟨by rw [HR.out]; rfl, vW.out⟩
  by_cases h32 : x.kind = 3 ∧ y.kind = 2
  ·obtain ⟨h1, h2⟩ := h32
   have HR := Eh (show RC.conf x.c y.c = ci x.c y.c by rw [zb.out, h1, h2]; rfl)
   rw [h1] at x0
   rw [h2] at y0
   clear h1 h2 zb
   ·go_wp2_with (first | (refine ai rfl _ _ rfl _ _ rfl _ vt.out ?_) | (refine ai rfl _ _ rfl _ _ rfl _ vH.out ?_) | (go_at_call 72; refine Ct.out.mono ?_; rintro r3 w3 ⟨rfl, hk3⟩; have vD := Eh (vW.out.trans hk3 (fun _ h => h.elim)); clear hk3 Ct zz vt vH x0 x1 x3 x4 x5 y0 y1 y3 y4 y5))
    go_ret
    exact ⟨by rw [HR.out]; rfl, vD.out⟩
  by_cases h23 : x.kind = 2 ∧ y.kind = 3
  ·obtain ⟨h1, h2⟩ := h23
   have HR := Eh (show RC.conf x.c y.c = ci y.c x.c by rw [zb.out, h1, h2]; rfl)
   rw [h1] at x0
   rw [h2] at y0
   clear h1 h2 zb
   ·go_wp2_with (first | (refine ai rfl _ _ rfl _ _ rfl _ vt.out ?_) | (refine ai rfl _ _ rfl _ _ rfl _ vH.out ?_) | (go_at_call 72; refine zz.out.mono ?_; rintro r3 w3 ⟨rfl, hk3⟩; have vD := Eh (vW.out.trans hk3 (fun _ h => h.elim)); clear hk3 Ct zz vt vH x0 x1 x3 x4 x5 y0 y1 y3 y4 y5))
    go_ret
    exact ⟨by rw [HR.out]; rfl, vD.out⟩
  have HR := Eh (show RC.conf x.c y.c = false by rw [zb.out, if_neg h11, if_neg h22, if_neg h32, if_neg h23])
  by_cases a1 : x.kind = 1
  ·have e1 : (y.kind == 1) = false := by simp; omega
   rw [a1] at x0
   clear h11 h22 h32 h23 zb a1
   go_wp2_with fail
   go_ret
   exact ⟨by rw [HR.out]; rfl, vW.out⟩
  by_cases a2 : x.kind = 2
  ·have e1 : (y.kind == 2) = false := by simp; omega
   have e2 : (y.kind == 3) = false := by simp; omega
   rw [a2] at x0
   clear h11 h22 h32 h23 zb a1 a2
   go_wp2_with fail
   go_ret
   exact ⟨by rw [HR.out]; rfl, vW.out⟩
  by_cases a3 : x.kind = 3
  ·have e1 : (y.kind == 2) = false := by simp; omega
   rw [a3] at x0
   clear h11 h22 h32 h23 zb a1 a2 a3
   go_wp2_with fail
   go_ret
   exact ⟨by rw [HR.out]; rfl, vW.out⟩
  have e1 : (x.kind == 1) = false := by simpa using a1
  have e2 : (x.kind == 2) = false := by simpa using a2
  have e3 : (x.kind == 3) = false := by simpa using a3
  clear h11 h22 h32 h23 zb a1 a2 a3
  go_wp2_with fail
  go_ret
  exact ⟨by rw [HR.out]; rfl, vW.out⟩
 ·have t0 : (x.table != y.table) = true := by simpa using ht
  have HR := Eh (show RC.conf x.c y.c = false by rw [HP.out, decide_eq_false ht]; rfl)
  clear HP ht
  go_enter Tryz.func36, Tryz.ntmps36
  go_upto_region 1 with fail
  rw [← uW.out]
  clear uW
  generalize w.heap.size + 1 = b2 at *
  generalize w.heap.size = b1 at *
  obtain ⟨x0, x1, x3, x4, x5⟩ := a7 vj.out
  obtain ⟨y0, y1, y3, y4, y5⟩ := a7 vm.out
  go_wp2_with fail
  go_ret
  exact ⟨by rw [HR.out]; rfl, vd.out⟩
end Go.Proofs.YtgljdkjepdknnaaGreatDoor
