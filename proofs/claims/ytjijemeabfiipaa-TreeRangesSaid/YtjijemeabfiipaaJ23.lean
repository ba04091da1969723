/- TreeStops: who wants no more than so many gets these, from the first one on. -/
import Derived.Test.YtjijemeabfiipaaJ13
namespace Go.Proofs.Ytjijemeabfiipaa
open Go.ChangeShapes Go.WideShapes Go.ChangeAt Go.RowKit
set_option maxRecDepth 100000
set_option linter.unusedSimpArgs false
attribute [local go_sem] Oper.semAt_some

theorem and15 (x : Int) : ∃ q : Nat, bits .and .i64 x 15 = (q : Int) ∧ q ≤ 15 := by
  have h : (BitVec.ofInt 64 x &&& BitVec.ofInt 64 15).toNat ≤ 15 := by
    rw [BitVec.toNat_and]
    exact Nat.and_le_right
  have e : bits .and .i64 x 15 = IntKind.i64.wrap ((BitVec.ofInt 64 x &&& BitVec.ofInt 64 15).toNat : Int) := rfl
  exact ⟨_, by rw [e, i64w _ (by omega) (by omega)], h⟩
/-- a name for the frame -/
theorem with_act {F : Fence} {n : Nat} {P : Program} {c : Code} {Q : Exit → Act → World → Prop} {a : Act} {w : World} (h : ∀ a0, a0 = a → c.wpIn F n P Q a0 w) : c.wpIn F n P Q a w := h a rfl
theorem Rd.take {w : World} {size : Nat} {ao : Option Addr} {n cap : Nat} {xs : List Value} (h : Rd w size (.slice ao n cap) n xs) {m : Nat} (hm : m ≤ n) : Rd w size (.slice ao m cap) m (xs.take (m * size)) := by
  obtain ⟨h1, h2, ao', cap', h3, h4, h5, h6, h7⟩ := h
  cases h3
  have hl : m * size ≤ n * size := Nat.mul_le_mul_right _ hm
  refine ⟨by rw [List.length_take, h1]; omega, by omega, ao, cap, rfl, by omega, h5, h6, ?_⟩
  rcases h7 with h7 | ⟨g, o, rfl, h8⟩
  · exact .inl (by omega)
  · refine .inr ⟨g, o, rfl, fun j u hu => ?_⟩
    rw [List.getElem?_take] at hu
    split at hu
    · exact h8 j u hu
    · cases hu
theorem take_of_prefix {α : Type} {pre q : List α} (h : pre <+: q) {n : Nat} (hn : pre.length = n) : pre = q.take n := by
  obtain ⟨r, rfl⟩ := h
  subst hn
  rw [List.take_left]

/-- a store of trees under way -/
def Runs (B w : World) (D : PH) (t n : Nat) (l : List HP) : Prop := ∃ T L, Good T L ∧ Small T L n ∧ TreeA B D w t T l

set_option maxHeartbeats 4000000 in
theorem stops_ok {w : World} {sv : Value} {acts : List ActT} {s : Spn} (many : Int) (hx : ActsRd w sv acts) :
    Calls Try.prog 3 #[sv, s.v, .int .i64 many] w fun e w' => e = .returned (.bool true) ∧ Kept (fun _ => False) w w' := by
  obtain ⟨wa, hwa⟩ : ∃ wa, wa = w.alloc (.cells s.cells tS) := ⟨_, rfl⟩
  have hk1 : Kept (fun _ => False) w wa := by rw [hwa]; exact (Kept.refl _ _).alloc _
  have hb1 : wa.heap[w.heap.size]? = some (.cells s.cells tS (0, 0)) := by rw [hwa]; exact heap_alloc_self w _
  obtain ⟨_, m1, ao, cap, rfl, hcap, hcap2, hao, _⟩ := id hx
  have HX := Lib.hid (hx.kept hk1 (fun _ _ h => h))
  have HK := Lib.hid hk1
  have HB := Lib.hid hb1
  obtain ⟨NA, hNA⟩ : ∃ NA, acts.length = NA := ⟨_, rfl⟩
  have HNA := Lib.hid hNA
  unfold ActsRd at HX
  rw [hNA] at m1 hcap HX ⊢
  unfold maxLen at m1 hcap2
  have HWA := Lib.hid hwa
  clear hk1 hb1 hx hwa hNA
  dsimp only [Spn.v]
  refine (callsIn_wide (n := 6)).1 (callsIn_of_wp_marks Try.func3 rfl trivial ?_ rfl)
  simp only [Try.ntmps3, List.size_toArray, List.length_cons, List.length_nil, Nat.reduceAdd, Nat.reduceSub, Array.replicate_succ, Array.replicate_zero, List.push_toArray, List.append_toArray, List.nil_append, List.cons_append]
  refine wpIn_wide.2 ?_
  go_upto_region 1 with (fail)
  have hwa := HWA.out
  dsimp only [Spn.cells] at hwa
  rw [← hwa]
  clear hwa HWA
  revert HB
  generalize w.heap.size = bs
  intro HB
  go_wp2_with (first | (go_at_call 10; refine (awake_ok _).mono ?_; rintro e1 w1 ⟨rfl, hk1⟩; have HK1 := Lib.hid hk1; have HS1 := Lib.hid ((Sat.start wa).kept hk1); clear hk1) | (go_at_call 11; refine (New_ok HS1.out).mono ?_; rintro e2 w2 ⟨t, rfl, ha⟩; have HA := Lib.hid ha; clear ha))
  go_loopw [9] (fun idx wr => ∃ j : Nat, idx = .int .i64 j ∧ j ≤ NA ∧ j ≤ 120 ∧ Runs wa wr (heapOf wa) t j []) (fun idx _ => NA - (intOf idx).toNat)
  case atStart => exact ⟨0, rfl, Nat.zero_le _, Nat.zero_le _, _, _, good_empty, small_empty, HA.out⟩
  case round =>
    obtain ⟨j, rfl, hjN, hj1, T, L, hG, hS, hA⟩ := hrel
    by_cases hlt : j < NA ∧ j < 120
    · obtain ⟨hlt1, hlt2⟩ := hlt
      obtain ⟨x, hx⟩ : ∃ x, acts[j]? = some x := ⟨acts[j]'(by rw [HNA.out]; exact hlt1), List.getElem?_eq_getElem _⟩
      have hrd := HX.out.kept (hA.end_ (PH.le.refl _)) (fun _ _ h => h)
      obtain ⟨og, oo, rfl⟩ : ∃ og oo, ao = some ⟨og, oo, none⟩ := by
        rcases hrd.2.2 with ⟨_, _, hv, _, _, _, hc⟩
        cases hv
        rcases hc with h0 | ⟨g, o, hg, _⟩
        · omega
        · exact ⟨g, o, hg⟩
      obtain ⟨a0, a1, a2, a3, a4⟩ := act_cells hrd hx
      have hi1 : (j : Int) < (NA : Int) := by omega
      have hi2 : (j : Int) < 120 := by omega
      have HRUN := Lib.hid (show Runs wa wr (heapOf wa) t (j + 1) [] from ⟨T, L, hG, ⟨by have := hS.depth; omega, Nat.le_trans hS.nodes (Nat.mul_le_mul (by omega) (by omega)), by have := hS.len; omega⟩, hA⟩)
      have HP := Lib.hid (Put_ok x.k x.v hG hS (by omega) (hA.drew))
      have HSM := Lib.hid hS
      clear hG hS hA hrd
      cases hd : x.del
      · rw [hd] at a0
        go_upto_region 9 with (fail)
        refine wp_region_canon [(0, false, 11), (1, false, 11), (2, false, 11), (3, false, 11), (4, false, 11), (5, false, 11), (6, false, 11), (7, false, 11), (8, false, 11), (9, false, 11), (10, false, 11), (11, true, 0)] (by kernel_rfl) (by kernel_rfl) ?_
        iterate 11 (refine wpCan_read rfl rfl (fun K hK => ?_); go_simp; refine hK _ ?_; clear hK K)
        refine wpCan_eff rfl ?_
        refine wpList_do rfl (fun K hK => ?_)
        go_simp
        refine HP.out.mono ?_
        rintro e3 w3 ⟨T3, rfl, ha3, hn3⟩
        have HR3 := Lib.hid (show Runs wa w3 (heapOf wa) t (j + 1) [] from ⟨T3, _, hn3.good, hn3.small HSM.out, ha3⟩)
        clear ha3 hn3 a0 a1 a2 a3 a4 HP
        refine hK _ _ ?_
        clear hK K
        refine wpList_nil ?_
        refine And.intro ?_ ?_
        · go_simp
        refine wpCan_nil ?_
        go_wp2_with fail
        go_roundw
        case rel => exact ⟨j + 1, by go_num, by omega, by omega, HR3.out⟩
        case measure => simp [intOf]; omega
      · rw [hd] at a0
        go_wp2_with fail
        go_roundw
        case rel => exact ⟨j + 1, by go_num, by omega, by omega, HRUN.out⟩
        case measure => simp [intOf]; omega
    · have HG := Lib.hid (And.intro hG hS)
      have HA3 := Lib.hid hA
      clear hG hS hA HA HS1 HK1
      have hcut : ¬ (j : Int) < (NA : Int) ∨ ((j : Int) < (NA : Int) ∧ ¬ (j : Int) < 120) := by omega
      rcases hcut with hcut | ⟨hcut1, hcut2⟩
      all_goals
        go_upto_region 10 with (fail)
        have hbs := ((HA3.out.end_ (PH.le.refl _)).block _ (lt_of_heap HB.out) (fun h => h)).trans HB.out
        obtain ⟨s0, s1, s2, s3, s4, s5, s6, s7, s8, s9, s10⟩ := Spn.at (s := s) hbs
        have hlq : (inS s L).length ≤ 120 := Nat.le_trans (inS_len s L) (by have := HG.out.2.len; omega)
        have HPA := Lib.hid (pairs_ok (HG.out.1.tells s) (by omega) HA3.out)
        have HLQ := Lib.hid hlq
        clear hbs hlq
        go_upto_region 11 with ((go_at_call 13; refine HPA.out.mono ?_; clear HPA; rintro e4 w4 ⟨va, rfl, ha4⟩; have HA4 := Lib.hid ha4; clear ha4 s0 s1 s2 s3 s4 s5 s6 s7 s8 s9 s10))
        go_upto_region 12 with (fail)
        obtain ⟨q, hq, hq15⟩ := and15 many
        rw [hq]
        clear hq
        obtain ⟨all, hall⟩ : ∃ all, inS s L = all := ⟨_, rfl⟩
        have HT := Lib.hid (HG.out.1.tells s)
        rw [hall] at HT HA4 HLQ
        clear hall HG
        obtain ⟨wb, hwb⟩ : ∃ wb, wb = w4.alloc (.cells #[.int .i64 (q : Int)] tI) := ⟨_, rfl⟩
        rw [← hwb]
        have hkb : Kept (fun _ => False) w4 wb := by rw [hwb]; exact (Kept.refl _ _).alloc _
        have hnb : wb.heap[w4.heap.size]? = some (.cells #[.int .i64 (q : Int)] tI (0, 0)) := by rw [hwb]; exact heap_alloc_self _ _
        have HA5 := Lib.hid (HA4.out.kept hkb)
        have HNB := Lib.hid hnb
        clear hwb hkb hnb HA4 HA3
        revert HNB
        generalize w4.heap.size = bn
        intro HNB
        go_upto_region 13 with (fail)
        obtain ⟨W5, hW5⟩ : ∃ W5, W5 = wb.alloc (.cells #[.slice none 0 0] tPs) := ⟨_, rfl⟩
        rw [← hW5]
        have hk5 : Kept (fun _ => False) wb W5 := by rw [hW5]; exact (Kept.refl _ _).alloc _
        have hb5 : W5.heap[wb.heap.size]? = some (.cells #[.slice none 0 0] tPs (0, 0)) := by rw [hW5]; exact heap_alloc_self _ _
        have HK5 := Lib.hid hk5
        have HB5 := Lib.hid hb5
        clear hW5 hk5 hb5
        revert HB5
        generalize hbz : wb.heap.size = bo
        intro HB5
        have HBZ := Lib.hid hbz
        clear hbz
        have hka5 := (HA5.out.end_ (PH.le.refl _)).trans HK5.out (fun _ h => h.elim)
        have hbs := (hka5.block _ (lt_of_heap HB.out) (fun h => h)).trans HB.out
        have HSP := Lib.hid hbs
        obtain ⟨s0, s1, s2, s3, s4, s5, s6, s7, s8, s9, s10⟩ := Spn.at (s := s) hbs
        clear hbs hka5
        go_upto_region 15 with ((go_at_call 14; refine (range_ok _ s _).mono ?_; rintro e6 w6 ⟨b1, b2, rfl, hk6, -⟩; have HK6 := Lib.hid hk6; clear s0 s1 s2 s3 s4 s5 s6 s7 s8 s9 s10 hk6))
        have hbs := (HK6.out.block _ (lt_of_heap HSP.out) (fun h => h)).trans HSP.out
        obtain ⟨s0, s1, s2, s3, s4, s5, s6, s7, s8, s9, s10⟩ := Spn.at (s := s) hbs
        clear hbs
        go_wp2_with ((go_at_call 14; refine (range_ok _ s _).mono ?_; rintro e7 w7 ⟨c1, c2, rfl, hk7, hc1, hc2, hn1, hn2⟩; have HK7 := Lib.hid (HK6.out.trans hk7 (fun _ h => h.elim)); have HC1 := Lib.hid hc1; have HC2 := Lib.hid hc2; have HN := Lib.hid (And.intro hn1 hn2); clear s0 s1 s2 s3 s4 s5 s6 s7 s8 s9 s10 hk7 hc1 hc2 hn1 hn2))
        have hkb7 := HK5.out.trans HK7.out (fun _ h => h.elim)
        have hb7 : w7.heap[bo]? = some (.cells #[.slice none 0 0] tPs (0, 0)) := (HK7.out.block _ (lt_of_heap HB5.out) (fun h => h)).trans HB5.out
        have hbo1 := lt_of_heap HB5.out
        have hbr7 : BoxRow w7 bo tPs tP 4 (.slice none 0 0) 0 [] := ⟨hb7, Own.nil _ _ _, fun h => by cases h⟩
        have hnot : ∀ k, OwB bo w7 k → k = bo := fun k hk => (hbr7.ow hk).elim (fun h => h) (fun h => by cases h)
        obtain ⟨E, hE1, hE2⟩ := hbr7.iter
        have h12 := HN.out
        have hks6 := HK6.out.size
        refine (wpIn_wide (n := 5)).1 (with_act (fun a0 ha0 => ?_))
        refine wpIn_rangeFunc_ownH (n := 5) rfl (by omega) (gf := 32) (lb := #[.pointer (some ⟨c1, 0, none⟩), .pointer (some ⟨c2, 0, none⟩)]) (by rw [ha0]; rfl) trivial (enters_of Try.func32 (by kernel_rfl) rfl)
          (range_stops (T := T) (s := s) (q := all) (t := t) (D := E) (ownerB (lt_of_heap hb7)) 4 ?_ HT.out (hE1 _ _ _ _ HC1.out (fun h => by have := hnot _ h; omega)) (hE1 _ _ _ _ HC2.out (fun h => by have := hnot _ h; omega)) hE2)
          (fun h k => KpO.trans h k) (fun W l o o' hl h hc _ => KpO.put (ownerB (lt_of_heap hb7)) hl h hc) (Below.refl _ _) (fun _ => rfl)
          (fun pre W => Inv wb bo tPs tP 4 pcells pre W ∧ pre.length ≤ q) (fun c xs W => c = .exit 2 ∧ ∃ pre x, xs = pre ++ [x] ∧ Inv wb bo tPs tP 4 pcells pre W ∧ pre.length = q)
          (OwnFrom.and (Inv.ownFrom hkb7.size (lt_of_heap hb7)) (ownFrom_pure _ _)) (fun _ _ W W' row ⟨h1, pre, x, h2, h3, h4⟩ hg hr => ⟨h1, pre, x, h2, Inv.ownFrom hkb7.size (lt_of_heap hb7) _ _ _ _ h3 hg hr, h4⟩) ⟨Inv.start hkb7 hb7 (by have := HBZ.out; omega), Nat.zero_le _⟩
          (fun x a' W => ∃ bk, W.heap[bk]? = some (.cells #[.bool x.1.t, .int .i64 x.1.n, .string x.1.s] tV (0, 0)) ∧ a' = { tmps := (((a0.tmps.setIfInBounds 59 x.1.v).setIfInBounds 60 (.int .i64 x.2)).setIfInBounds 13 (.pointer (some ⟨bk, 0, none⟩))).setIfInBounds 14 (.int .i64 x.2), defers := [] })
          (fun x a' _ W W' row ⟨bk, h1, h2⟩ hg hr => ⟨bk, box_ownFrom h1 hg hr, h2⟩) ?assign ?body ?done ?stop
        · refine HA5.out.pool (fun k o hk => ?_)
          obtain ⟨cs, ty, fr, rfl⟩ := cellsOf_cells hk
          have h0 := cellsOf_le _ _ _ hk
          have hlt := lt_of_heap h0
          exact hE1 _ _ _ _ ((hkb7.block k hlt (fun h => h)).trans h0) (fun h => by have := hnot _ h; have := HBZ.out; omega)
        case assign =>
          subst ha0
          rintro l pre x W K ⟨hi, hpl⟩ hK
          obtain ⟨v, hbr⟩ := hi.row
          have hal : Kept (fun _ => False) W (W.alloc (.cells #[.bool x.1.t, .int .i64 x.1.n, .string x.1.s] tV)) := (Kept.refl _ _).alloc _
          have H := Lib.hid (hK _ _ (keepsFrom_kept hal _) (KpO.of_kept (ownerB (n₀ := bo + 1) (by omega)) (lt_of_heap hbr.box) hal) ⟨hi.frame hal, hpl⟩ ⟨W.heap.size, heap_alloc_self _ _, rfl⟩)
          clear hK
          simp only [List.setIfInBounds_toArray, List.set_cons_succ, List.set_cons_zero] at H
          dsimp only [Val.v] at H
          gi_wp2
          exact H.out
        case body =>
          subst ha0
          rintro l pre x a' W hl hr ⟨hi, hpl⟩ ⟨bk, hbk, rfl⟩ hlt
          obtain ⟨v, hbr⟩ := hi.row
          obtain ⟨D1, hD1, hs⟩ := hbr.sat
          obtain ⟨ob, cb, rfl⟩ := hs.swap.own_shape
          obtain ⟨o0, of⟩ := cells1 hbr.box
          obtain ⟨n0, nf⟩ := cells1 ((hi.kept.block _ (lt_of_heap HNB.out) (fun h => h)).trans HNB.out)
          obtain ⟨k0, k1, k2, kf⟩ := cells3 hbk
          have HI := Lib.hid hi
          have HBR := Lib.hid hbr
          have HD1 := Lib.hid hD1
          have hal := hs.alloc #[.bool x.1.t, .int .i64 x.1.n, .string x.1.s, .int .i64 x.2] tP
          have hrb := rd_block (size := 4) (n := 1) hal.heap_blk rfl (by unfold maxLen; omega)
          have HAL := Lib.hid hal.rot.swap
          have HRB := Lib.hid hrb
          have HPO := Lib.hid (pone x)
          obtain ⟨i0, hinf, hz0, hz1, hz2⟩ := info_parts infoPair
          have HI0 := Lib.hid (And.intro hinf (And.intro hz0 (And.intro hz1 hz2)))
          clear hi hbr hD1 hs hal hrb hbk hr hinf hz0 hz1 hz2
          simp only [List.setIfInBounds_toArray, List.set_cons_succ, List.set_cons_zero]
          dsimp only [Spn.v, Val.v]
          by_cases hge : (pre.length : Int) ≥ (q : Int)
          · gi_wp2_with (fail)
            first
          | exact ⟨KeepsFrom.refl _ _, rfl, pre, x, rfl, HI.out, by omega⟩
          | exact ⟨KeepsFrom.refl _ _, rfl, pre, ⟨x.1, x.2, rfl⟩, HI.out, by omega⟩
          · gi_wp2_with ((refine wpListIn_append_Sat _ rfl _ _ tPs rfl tP i0 _ 4 40 Try.underlying33 HI0.out.1 HI0.out.2.1 HI0.out.2.2.1 HI0.out.2.2.2 rfl _ _ _ rfl HAL.out _ 1 _ rfl HRB.out HPO.out (by unfold maxLen; omega) (by omega) ?_; intro v2 w2 h2 h2o; clear o0 of k0 k1 k2 kf n0 nf; obtain ⟨o0, of⟩ := cells1 (h2.blk 1 rfl); have H2 := Lib.hid (h2.swap.set 0 v2); clear h2))
            have h3 := H2.out
            obtain ⟨r1, r2, r3⟩ := HI.out.next (B := w7.heap.size) HBR.out HD1.out (x := x) (v' := v2) (l := [blk W.heap.size #[.bool x.1.t, .int .i64 x.1.n, .string x.1.s, .int .i64 x.2] tP]) (by
              rw [List.length_append, List.flatMap_append, List.flatMap_singleton]
              exact h3)
            exact ⟨r1, r2, r3, by rw [List.length_append, List.length_singleton]; omega⟩
        case done =>
          subst ha0
          rintro D1 som W hD hse ⟨hi, hpl⟩ hK
          have hsom : som = all.take q := by rw [hse, List.take_of_length_le (by rw [← hse]; exact hpl)]
          have hsomt : som = all.take som.length := by rw [hse, List.take_length]
          have hcmp : ((all.length : Int) < (q : Int)) ∨ q = all.length := by rw [hse] at hpl; omega
          have hsl : som.length ≤ all.length := by rw [hsom, List.length_take]; omega
          obtain ⟨v, hbr⟩ := hi.row
          have hkw := (HK.out.trans (HA5.out.end_ (PH.le.refl _)) (fun _ h => h.elim)).trans hi.kept (fun _ h => h.elim)
          have hDw : w.heap.size ≤ D1 := by have h1 := (HK.out.trans (HA5.out.end_ (PH.le.refl _)) (fun _ h => h.elim)).size; have h2 := hkb7.size; omega
          have hA6 := HA5.out.kept hi.kept
          obtain ⟨nv, fv, ns, hns, hs⟩ := hA6
          have hro := (Sat.own hs 4 rfl).rd
          obtain ⟨_, _, ova, cva, rfl, hcv1, hcv2, _⟩ := id hro
          have hr2 := Rd.take hro hsl
          rw [flat_take plen, ← hsomt] at hr2
          have hr1 := hbr.own.rd
          obtain ⟨_, _, ov, cv, rfl, hcw1, hcw2, _⟩ := id hr1
          have R1 := Lib.hid (show PairRd W (.slice ov som.length cv) som from hr1)
          have R2 := Lib.hid (show PairRd W (.slice ova som.length cva) som from hr2)
          obtain ⟨o0, of⟩ := cells1 hbr.box
          obtain ⟨n0, nf⟩ := cells1 ((hi.kept.block _ (lt_of_heap HNB.out) (fun h => h)).trans HNB.out)
          have HKW := Lib.hid hkw
          have HKD := Lib.hid hK
          have hslI : (som.length : Int) ≤ (all.length : Int) := by omega
          have hslc : (som.length : Int) ≤ (cva : Int) := by omega
          unfold maxLen at hcv2
          clear hs hns hro hr1 hr2 hbr hi hkw hK
          have hsel : som.length = all.length := by rw [hse]
          clear hse
          rw [hsel] at o0 R1 R2 hslI hslc
          clear hsel hsom hsomt hsl hpl
          rcases hcmp with hcmp | rfl
          · go_upto_region 20 with (fail)
            go_quiet (exact Calls.quiet_of (psame_ok (R1.out.drewN _) (R2.out.drewN _)))
            go_wp2_with (fail)
            refine ⟨by simp, .inl ⟨_, _, rfl, run_takeDeferred (by exact HKD.out), ?_⟩⟩
            exact ⟨_, results_tmp rfl _ _ _, rfl, (HKW.out.drewN _).trans (Kept.of_grown (grownBy_putObj' _ _ _)) (fun k hk => .inr (by cases hk; exact hDw))⟩
          · have hcmp2 : ¬ ((all.length : Int) < (all.length : Int)) := by omega
            go_upto_region 20 with (fail)
            go_quiet (exact Calls.quiet_of (psame_ok (R1.out.drewN _) (R2.out.drewN _)))
            go_wp2_with (fail)
            refine ⟨by simp, .inl ⟨_, _, rfl, run_takeDeferred (by exact HKD.out), ?_⟩⟩
            exact ⟨_, results_tmp rfl _ _ _, rfl, (HKW.out.drewN _).trans (Kept.of_grown (grownBy_putObj' _ _ _)) (fun k hk => .inr (by cases hk; exact hDw))⟩
        case stop =>
          subst ha0
          rintro D1 c pre' W hD hpre ⟨rfl, som, x, rfl, hi, hpl⟩ hK
          have hps : som <+: all := (List.prefix_append _ _).trans hpre
          have hsom : som = all.take q := take_of_prefix hps hpl
          have hsomt : som = all.take som.length := take_of_prefix hps rfl
          have hmin : min (q : Int) (all.length : Int) = (som.length : Int) := by have := hps.length_le; omega
          have hcmp : ¬ ((all.length : Int) < (q : Int)) := by have := hps.length_le; omega
          clear hps hpre hmin
          have hsl : som.length ≤ all.length := by rw [hsom, List.length_take]; omega
          obtain ⟨v, hbr⟩ := hi.row
          have hkw := (HK.out.trans (HA5.out.end_ (PH.le.refl _)) (fun _ h => h.elim)).trans hi.kept (fun _ h => h.elim)
          have hDw : w.heap.size ≤ D1 := by have h1 := (HK.out.trans (HA5.out.end_ (PH.le.refl _)) (fun _ h => h.elim)).size; have h2 := hkb7.size; omega
          have hA6 := HA5.out.kept hi.kept
          obtain ⟨nv, fv, ns, hns, hs⟩ := hA6
          have hro := (Sat.own hs 4 rfl).rd
          obtain ⟨_, _, ova, cva, rfl, hcv1, hcv2, _⟩ := id hro
          have hr2 := Rd.take hro hsl
          rw [flat_take plen, ← hsomt] at hr2
          have hr1 := hbr.own.rd
          obtain ⟨_, _, ov, cv, rfl, hcw1, hcw2, _⟩ := id hr1
          have R1 := Lib.hid (show PairRd W (.slice ov som.length cv) som from hr1)
          have R2 := Lib.hid (show PairRd W (.slice ova som.length cva) som from hr2)
          obtain ⟨o0, of⟩ := cells1 hbr.box
          obtain ⟨n0, nf⟩ := cells1 ((hi.kept.block _ (lt_of_heap HNB.out) (fun h => h)).trans HNB.out)
          have HKW := Lib.hid hkw
          have HKD := Lib.hid hK
          have hslI : (som.length : Int) ≤ (all.length : Int) := by omega
          have hslc : (som.length : Int) ≤ (cva : Int) := by omega
          unfold maxLen at hcv2
          clear hs hns hro hr1 hr2 hbr hi hkw hK
          rw [hpl] at o0 R1 R2 hslI hslc
          clear hsom hsomt hsl hpl
          refine wpIn_wide.2 ?_
          go_upto_region 20 with (fail)
          go_quiet (exact Calls.quiet_of (psame_ok (R1.out.drewN _) (R2.out.drewN _)))
          go_wp2_with (fail)
          refine ⟨by simp, .inl ⟨_, _, rfl, run_takeDeferred (by exact HKD.out), ?_⟩⟩
          exact ⟨_, results_tmp rfl _ _ _, rfl, (HKW.out.drewN _).trans (Kept.of_grown (grownBy_putObj' _ _ _)) (fun k hk => .inr (by cases hk; exact hDw))⟩
end Go.Proofs.Ytjijemeabfiipaa
