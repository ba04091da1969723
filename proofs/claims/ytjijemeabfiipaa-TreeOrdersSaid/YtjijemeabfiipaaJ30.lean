/- TreeOrders: in whatever order keys are put; what is put and deleted leaves no trace. -/
import Derived.Test.YtjijemeabfiipaaJ28
import Derived.Test.YtjijemeabfiipaaJ29
namespace Go.Proofs.Ytjijemeabfiipaa
open Go.ChangeShapes Go.WideShapes Go.ChangeAt Go.RowKit
set_option maxRecDepth 100000
set_option linter.unusedSimpArgs false

/-- a tree among what is owned -/
def treeG (t : Nat) (T : TM) : HP := exP (fun x : Value × Value × List NP => x.2.2.map Prod.snd = T.nodes) (fun x => [blk t (treeCells x.1 x.2.1 T.k) tT, ownS tN 4 x.1 x.2.2.length (x.2.2.flatMap nodeCells), kidsP x.2.1 T.free, group (x.2.2.map nodeP)])
theorem TreeA.close {B w : World} {D : PH} {t : Nat} {T : TM} {l : List HP} (h : TreeA B D w t T l) : Sat B D w (treeG t T :: l) := by
  obtain ⟨nv, fv, ns, hns, hs⟩ := h
  exact Sat.close_ex (nv, fv, ns) hns hs
theorem treeOpen {B w : World} {D : PH} {t : Nat} {T : TM} {l : List HP} (h : Sat B D w (treeG t T :: l)) : TreeA B D w t T l := by
  obtain ⟨⟨nv, fv, ns⟩, hns, hs⟩ := Sat.open_ex h
  exact ⟨nv, fv, ns, hns, hs⟩
theorem val_cells {w : World} {g og N cap k : Nat} {xs : List Val} {x : Val} (h : Rd w 3 (.slice (some ⟨g, og, none⟩) N cap) N (xs.flatMap Val.cells)) (hx : xs[k]? = some x) :
    w.cell? ⟨g, og + k * 3, none⟩ = some (.bool x.t) ∧ w.cell? ⟨g, og + k * 3 + 1, none⟩ = some (.int .i64 x.n) ∧ w.cell? ⟨g, og + k * 3 + 2, none⟩ = some (.string x.s) := by
  have hlt := (List.getElem?_eq_some_iff.1 hx).1
  rcases h.2.2 with ⟨_, _, hv, _, _, _, hcell⟩
  cases hv
  rcases hcell with h0 | ⟨_, _, hg, hc⟩
  · have := h.1
    rw [flat_len Val.len] at this
    omega
  cases hg
  have f := fun j u hj => hc _ _ (flat_get Val.len xs k _ hx j u hj)
  have a0 := f 0 _ rfl
  have a1 := f 1 _ rfl
  have a2 := f 2 _ rfl
  rw [Nat.add_zero] at a0
  rw [← Nat.add_assoc] at a1 a2
  exact ⟨a0, a1, a2⟩
theorem val_src {w : World} {ao : Option Addr} {N cap k : Nat} {xs : List Val} {x : Val} (h : Rd w 3 (.slice ao N cap) N (xs.flatMap Val.cells)) (hx : xs[k]? = some x) (hl : xs.length = N) : ∃ g og, ao = some ⟨g, og, none⟩ := by
  have hlt := (List.getElem?_eq_some_iff.1 hx).1
  rcases h.2.2 with ⟨_, _, hv, _, _, _, hc⟩
  cases hv
  rcases hc with h0 | ⟨g, o, hg, _⟩
  · omega
  · exact ⟨g, o, hg⟩
theorem rev_get {α : Type} {l : List α} {j : Nat} {x : α} (hj : j < l.length) (h : l[l.length - 1 - j]? = some x) : l.reverse[j]? = some x := by
  rw [List.getElem?_reverse hj, h]
theorem mem_snoc {α : Type} {l : List α} {j : Nat} {y : α} (h : l[j]? = some y) (x : α) : x ∈ l.take (j + 1) ↔ x ∈ l.take j ∨ x = y := by
  rw [List.take_add_one, h]; simp
theorem Ones.fits {S : List Val} {L : PL} (h : Ones S L) (hf : ∀ x ∈ S, x.fits) : FitsL L := fun p hp => hf _ ((h p).1 hp).2.2

/-- two trees under way, and what lies beside them -/
structure TwoR (B w : World) (D : PH) (ta tb n : Nat) (LA LB : PL) (l : List HP) (TA TB : TM) : Prop where
  ga : Good TA LA
  sa : Small TA LA n
  gb : Good TB LB
  sb : Small TB LB n
  sat : Sat B D w (treeG ta TA :: treeG tb TB :: l)

set_option maxHeartbeats 16000000 in
theorem orders_ok {w : World} {lv mv : Value} {ls ms : List Val} (hl : ValsRd w lv ls) (hm : ValsRd w mv ms) (hlf : ∀ x ∈ ls, x.fits) :
    Calls Try.prog 5 #[lv, mv] w fun e w' => e = .returned (.bool true) ∧ Kept (fun _ => False) w w' := by
  obtain ⟨_, m1, ao, lcap, rfl, hcap, hcap2, hao, _⟩ := id hl
  obtain ⟨_, m2, bo, mcap, rfl, hcap3, hcap4, hbo, _⟩ := id hm
  have HL := Lib.hid hl
  have HM := Lib.hid hm
  have HLF := Lib.hid hlf
  obtain ⟨NL, hNL⟩ : ∃ NL, ls.length = NL := ⟨_, rfl⟩
  obtain ⟨NM, hNM⟩ : ∃ NM, ms.length = NM := ⟨_, rfl⟩
  have HNL := Lib.hid hNL
  have HNM := Lib.hid hNM
  unfold ValsRd at HL HM
  rw [hNL] at m1 hcap HL ⊢
  rw [hNM] at m2 hcap3 HM ⊢
  unfold maxLen at m1 hcap2 m2 hcap4
  clear hl hm hlf hNL hNM
  go_enter Try.func5, Try.ntmps5
  go_upto_region 4 with ((go_at_call 10; refine (awake_ok _).mono ?_; rintro e1 w1 ⟨rfl, hk1⟩; have HK1 := Lib.hid hk1; have HS1 := Lib.hid ((Sat.start w).kept hk1); clear hk1))
  by_cases hbig : NL > 100 ∨ NM > 100
  · have hcut : ((NL : Int) > 100) ∨ (¬ ((NL : Int) > 100) ∧ (NM : Int) > 100) := by omega
    rcases hcut with hc | ⟨hc, hc2⟩
    all_goals
      go_wp2_with fail
      go_ret
      exact ⟨rfl, HK1.out⟩
  · have hc1 : ¬ ((NL : Int) > 100) := by omega
    have hc2 : ¬ ((NM : Int) > 100) := by omega
    have hNL1 : NL ≤ 100 := by omega
    have hNM1 : NM ≤ 100 := by omega
    clear hbig
    go_upto_region 7 with ((go_at_call 11; refine (New_ok HS1.out).mono ?_; rintro e2 w2 ⟨ta, rfl, ha⟩; have HA := Lib.hid ha.close; clear ha))
    go_wp2_with ((go_at_call 11; refine (New_ok HA.out).mono ?_; rintro e2 w3 ⟨tb, rfl, hb⟩; have HB := Lib.hid hb.close.swap; clear hb))
    go_loopw [8] (fun idx wr => ∃ (j : Nat) (LA LB : PL) (TA TB : TM), idx = .int .i64 j ∧ j ≤ NL ∧ Ones (ls.take j) LA ∧ Ones (ls.reverse.take j) LB ∧ TwoR w wr (heapOf w) ta tb j LA LB [] TA TB) (fun idx _ => NL - (intOf idx).toNat)
    case atStart => exact ⟨0, [], [], _, _, rfl, by omega, by intro p; simp, by intro p; simp, good_empty, small_empty, good_empty, small_empty, HB.out⟩
    case round =>
      obtain ⟨j, LA, LB, TA, TB, rfl, hj, hoa, hob, ⟨hga, hsa, hgb, hsb, hsat⟩⟩ := hrel
      have hend := Sat.end_ hsat (PH.le.refl _)
      by_cases hlt : j < NL
      · obtain ⟨x, hx⟩ : ∃ x, ls[j]? = some x := ⟨ls[j]'(by rw [HNL.out]; exact hlt), List.getElem?_eq_getElem _⟩
        obtain ⟨y, hy⟩ : ∃ y, ls[NL - 1 - j]? = some y := ⟨ls[NL - 1 - j]'(by rw [HNL.out]; omega), List.getElem?_eq_getElem _⟩
        have hrd := HL.out.kept hend (fun _ _ h => h)
        obtain ⟨g, og, rfl⟩ := val_src hrd hx HNL.out
        obtain ⟨a0, a1, a2⟩ := val_cells hrd hx
        have hi1 : (j : Int) < (NL : Int) := by omega
        have hw1 : IntKind.i64.wrap ((NL : Int) - 1) = ((NL - 1 : Nat) : Int) := by rw [i64w _ (by omega) (by omega)]; omega
        have hw2 : IntKind.i64.wrap (((NL - 1 : Nat) : Int) - (j : Int)) = ((NL - 1 - j : Nat) : Int) := by rw [i64w _ (by omega) (by omega)]; omega
        have hi2 : ((NL - 1 - j : Nat) : Int) < (NL : Int) := by omega
        have HY := Lib.hid hy
        have HOA := Lib.hid (hoa.put (k := x) hga.right (mem_snoc hx))
        have HOB := Lib.hid (hob.put (k := y) hgb.right (mem_snoc (rev_get (by rw [HNL.out]; exact hlt) (by rw [HNL.out]; exact hy))))
        have HPA := Lib.hid (Put_ok x 1 hga hsa (by omega) (treeOpen hsat))
        have HGB := Lib.hid (And.intro hgb hsb)
        have HSA := Lib.hid hsa
        clear hx hy hoa hob hga hsa hgb hsb hsat hend hrd
        go_upto_region 12 with ((go_at_call 12; refine HPA.out.mono ?_; clear HPA; rintro e4 w4 ⟨TA2, rfl, ha4, hn4⟩; have HA4 := Lib.hid ha4.close; have HN4 := Lib.hid hn4; clear ha4 hn4 a0 a1 a2))
        obtain ⟨a0, a1, a2⟩ := val_cells (HL.out.kept (Sat.end_ HA4.out (PH.le.refl _)) (fun _ _ h => h)) HY.out
        go_wp2_with ((go_at_call 12; refine (Put_ok y 1 HGB.out.1 HGB.out.2 (by omega) (treeOpen HA4.out.swap)).mono ?_; rintro e5 w5 ⟨TB2, rfl, ha5, hn5⟩; have HA5 := Lib.hid ha5.close.swap; have HN5 := Lib.hid hn5; clear ha5 hn5 a0 a1 a2))
        exact ⟨⟨j + 1, _, _, TA2, TB2, by simp, by omega, HOA.out, HOB.out, HN4.out.good, HN4.out.small HSA.out, HN5.out.good, HN5.out.small HGB.out.2, HA5.out⟩, by simp [intOf]; omega⟩
      · have hjN : j = NL := by omega
        have h0 : ¬ (j : Int) < (NL : Int) := by omega
        rw [List.take_of_length_le (by rw [HNL.out]; omega)] at hoa
        rw [List.take_of_length_le (by rw [List.length_reverse, HNL.out]; omega)] at hob
        have hob2 : Ones ls LB := fun p => by rw [hob p, List.mem_reverse]
        have HLAB := Lib.hid (sorted_ext hga.sorted hgb.sorted (fun p => by rw [hoa p, hob2 p]))
        have HOA := Lib.hid hoa
        have HTW := Lib.hid hob2.twos
        have HGA := Lib.hid (And.intro hga hsa)
        have HGB := Lib.hid (And.intro hgb hsb)
        have HFIT := Lib.hid (hoa.fits HLF.out)
        have hla := hsa.len
        have HQ := Lib.hid (hga.tells spn0)
        rw [inS0] at HQ
        have HPAIR := Lib.hid (pairs_ok (s := spn0) HQ.out (by omega) (treeOpen hsat))
        clear hoa hob hob2 hga hsa hgb hsb hsat hend hlt
        go_upto_region 14 with ((go_at_call 13; refine HPAIR.out.mono ?_; clear HPAIR; rintro e6 w6 ⟨v6, rfl, ha6⟩; have HA6 := Lib.hid (ha6.close.perm ((List.Perm.swap _ _ _).cons _)); clear ha6))

        go_wp2_with fail
        go_loopw [10, 11, 12] (fun idx _ _ wr => ∃ (j : Nat) (LB : PL) (TB : TM), idx = .int .i64 j ∧ j ≤ NM ∧ Twos ls (ms.take j) LB ∧ TwoR w wr (heapOf w) ta tb (NL + j) LA LB [rowP v6 LA] TA TB) (fun idx _ _ _ => NM - (intOf idx).toNat)
        case atStart => exact ⟨0, LB, TB, rfl, by omega, by simpa using HTW.out, HGA.out.1, (by have := HGA.out.2; subst hjN; exact this), HGB.out.1, (by have := HGB.out.2; subst hjN; exact this), HA6.out⟩
        case round =>
          obtain ⟨j, LB, TB, rfl, hj, htw, ⟨hga, hsa, hgb, hsb, hsat⟩⟩ := hrel
          by_cases hlt : j < NM
          · obtain ⟨m, hm⟩ : ∃ m, ms[j]? = some m := ⟨ms[j]'(by rw [HNM.out]; exact hlt), List.getElem?_eq_getElem _⟩
            have hmd := HM.out.kept (Sat.end_ hsat (PH.le.refl _)) (fun _ _ h => h)
            obtain ⟨mg, mo, rfl⟩ := val_src hmd hm HNM.out
            obtain ⟨b0, b1, b2⟩ := val_cells hmd hm
            have hi1 : (j : Int) < (NM : Int) := by omega
            have HSJ := Lib.hid hsat
            have HGJ := Lib.hid (And.intro hga (And.intro hsa (And.intro hgb hsb)))
            have HTJ := Lib.hid htw
            have HMJ := Lib.hid hm
            clear hga hsa hgb hsb hsat htw hm hmd
            obtain ⟨W0, hW0⟩ : ∃ W0, W0 = wr := ⟨_, rfl⟩
            rw [← hW0] at HSJ b0 b1 b2 ⊢
            clear hW0
            go_wp2_with fail
            go_loopw [11, 12] (fun th kk wq => ∃ (q n : Nat), kk = .int .i64 q ∧ q ≤ NL ∧ th = .bool (decide (m ∈ ls.take q)) ∧ wq = W0.drewN n) (fun _ kk _ => NL - (intOf kk).toNat)
            case atStart => exact ⟨0, 0, rfl, by omega, by simp, rfl⟩
            case round =>
              obtain ⟨q, n0, rfl, hq, rfl, rfl⟩ := hrel
              by_cases hql : q < NL
              · obtain ⟨x, hx⟩ : ∃ x, ls[q]? = some x := ⟨ls[q]'(by rw [HNL.out]; exact hql), List.getElem?_eq_getElem _⟩
                have hrd := HL.out.kept (Sat.end_ HSJ.out (PH.le.refl _)) (fun _ _ h => h)
                obtain ⟨g, og, rfl⟩ := val_src hrd hx HNL.out
                obtain ⟨a0, a1, a2⟩ := val_cells hrd hx
                have hi3 : (q : Int) < (NL : Int) := by omega
                have HMEM := Lib.hid (mem_snoc hx m)
                clear hx hrd
                by_cases hin : m ∈ ls.take q
                · have hd : decide (m ∈ ls.take q) = true := decide_eq_true hin
                  have HD2 := Lib.hid (show decide (m ∈ ls.take (q + 1)) = true from decide_eq_true (HMEM.out.2 (.inl hin)))
                  rw [hd]
                  clear hin hd
                  go_wp2_with fail
                  go_quiet (fail)
                  go_wp2_with fail
                  go_roundw
                  case rel => exact ⟨q + 1, _, by go_num, by omega, by rw [HD2.out], rfl⟩
                  case measure => simp [intOf]; omega
                · have hd : decide (m ∈ ls.take q) = false := decide_eq_false hin
                  rw [hd]
                  by_cases hxm : x = m
                  · have hv : valEqB x.t x.n x.s m.t m.n m.s = true := by rw [valEqB_val]; exact decide_eq_true hxm
                    have HD2 := Lib.hid (show decide (m ∈ ls.take (q + 1)) = true from decide_eq_true (HMEM.out.2 (.inr hxm.symm)))
                    clear hin hd hxm
                    go_wp2_with fail
                    go_quiet (fail)
                    go_wp2_with fail
                    go_roundw
                    case rel => exact ⟨q + 1, _, by go_num, by omega, by rw [HD2.out], rfl⟩
                    case measure => simp [intOf]; omega
                  · have hv : valEqB x.t x.n x.s m.t m.n m.s = false := by rw [valEqB_val]; exact decide_eq_false hxm
                    have HD2 := Lib.hid (show decide (m ∈ ls.take (q + 1)) = false from decide_eq_false (fun h => (HMEM.out.1 h).elim hin (fun e => hxm e.symm)))
                    clear hin hd hxm
                    go_wp2_with fail
                    go_quiet (fail)
                    go_wp2_with fail
                    go_roundw
                    case rel => exact ⟨q + 1, _, by go_num, by omega, by rw [HD2.out], rfl⟩
                    case measure => simp [intOf]; omega
              · have hqN : q = NL := by omega
                have h3 : ¬ (q : Int) < (NL : Int) := by omega
                rw [List.take_of_length_le (by rw [HNL.out]; omega)]
                have HSQ := Lib.hid (HSJ.out.drewN n0)
                by_cases hin : m ∈ ls
                · have hd : decide (m ∈ ls) = true := decide_eq_true hin
                  rw [hd]
                  have HT2 := Lib.hid (HTJ.out.skip (M' := ms.take (j + 1)) (fun x hx => by rw [mem_snoc HMJ.out]; exact ⟨fun h => h.elim (fun h => h) (fun e => absurd (e ▸ hin) hx), .inl⟩))
                  clear hin hd
                  go_wp2_with fail
                  exact ⟨⟨j + 1, LB, TB, by simp, by omega, HT2.out, HGJ.out.1, HGJ.out.2.1.more, HGJ.out.2.2.1, HGJ.out.2.2.2.more, HSQ.out⟩, by simp [intOf]; omega⟩
                · have hd : decide (m ∈ ls) = false := decide_eq_false hin
                  rw [hd]
                  have HT2 := Lib.hid (HTJ.out.put (M' := ms.take (j + 1)) HGJ.out.2.2.1.right hin (fun x => mem_snoc HMJ.out x))
                  clear hin hd
                  go_wp2_with ((go_at_call 12; refine (Put_ok m 2 HGJ.out.2.2.1 HGJ.out.2.2.2 (by omega) (treeOpen HSQ.out.swap)).mono ?_; rintro e7 w7 ⟨TB2, rfl, ha7, hn7⟩; have HA7 := Lib.hid ha7.close.swap; have HN7 := Lib.hid hn7; clear ha7 hn7 b0 b1 b2))
                  exact ⟨⟨j + 1, _, TB2, by simp, by omega, HT2.out, HGJ.out.1, HGJ.out.2.1.more, HN7.out.good, HN7.out.small HGJ.out.2.2.2, HA7.out⟩, by simp [intOf]; omega⟩
          · have hjM : j = NM := by omega
            have h1 : ¬ (j : Int) < (NM : Int) := by omega
            clear hlt
            rw [List.take_of_length_le (by rw [HNM.out]; omega)] at htw
            have HTW2 := Lib.hid htw
            have HGA2 := Lib.hid (And.intro hga (And.intro hsa (And.intro hgb hsb)))
            have HSA2 := Lib.hid hsat
            clear htw hga hsa hgb hsb hsat
            skip
            -- NEXT
            go_wp2_with fail
            go_loopw [13, 14, 15] (fun idx _ _ wr => ∃ (j : Nat) (LB : PL) (TB : TM), idx = .int .i64 j ∧ j ≤ NM ∧ Twos ls (rest ms j) LB ∧ TwoR w wr (heapOf w) ta tb (NL + NM + j) LA LB [rowP v6 LA] TA TB) (fun idx _ _ _ => NM - (intOf idx).toNat)
            case atStart => exact ⟨0, LB, TB, rfl, by omega, by rw [rest_0]; exact HTW2.out, HGA2.out.1, (by have := HGA2.out.2.1; rw [hjM] at this; exact this), HGA2.out.2.2.1, (by have := HGA2.out.2.2.2; rw [hjM] at this; exact this), HSA2.out⟩
            case round =>
              obtain ⟨j, LB, TB, rfl, hj, htw, ⟨hga, hsa, hgb, hsb, hsat⟩⟩ := hrel
              by_cases hlt : j < NM
              · obtain ⟨m, hm⟩ : ∃ m, ms[j]? = some m := ⟨ms[j]'(by rw [HNM.out]; exact hlt), List.getElem?_eq_getElem _⟩
                have hmd := HM.out.kept (Sat.end_ hsat (PH.le.refl _)) (fun _ _ h => h)
                obtain ⟨mg, mo, rfl⟩ := val_src hmd hm HNM.out
                obtain ⟨b0, b1, b2⟩ := val_cells hmd hm
                have hi1 : (j : Int) < (NM : Int) := by omega
                have HSJ := Lib.hid hsat
                have HGJ := Lib.hid (And.intro hga (And.intro hsa (And.intro hgb hsb)))
                have HTJ := Lib.hid htw
                have HMJ := Lib.hid hm
                clear hga hsa hgb hsb hsat htw hm hmd
                obtain ⟨W0, hW0⟩ : ∃ W0, W0 = wr := ⟨_, rfl⟩
                rw [← hW0] at HSJ b0 b1 b2 ⊢
                clear hW0
                go_wp2_with fail
                go_loopw [14, 15] (fun th kk wq => ∃ (q n : Nat), kk = .int .i64 q ∧ q ≤ NL ∧ th = .bool (decide (m ∈ ls.take q)) ∧ wq = W0.drewN n) (fun _ kk _ => NL - (intOf kk).toNat)
                case atStart => exact ⟨0, 0, rfl, by omega, by simp, rfl⟩
                case round =>
                  obtain ⟨q, n0, rfl, hq, rfl, rfl⟩ := hrel
                  by_cases hql : q < NL
                  · obtain ⟨x, hx⟩ : ∃ x, ls[q]? = some x := ⟨ls[q]'(by rw [HNL.out]; exact hql), List.getElem?_eq_getElem _⟩
                    have hrd := HL.out.kept (Sat.end_ HSJ.out (PH.le.refl _)) (fun _ _ h => h)
                    obtain ⟨g, og, rfl⟩ := val_src hrd hx HNL.out
                    obtain ⟨a0, a1, a2⟩ := val_cells hrd hx
                    have hi3 : (q : Int) < (NL : Int) := by omega
                    have HMEM := Lib.hid (mem_snoc hx m)
                    clear hx hrd
                    by_cases hin : m ∈ ls.take q
                    · have hd : decide (m ∈ ls.take q) = true := decide_eq_true hin
                      have HD2 := Lib.hid (show decide (m ∈ ls.take (q + 1)) = true from decide_eq_true (HMEM.out.2 (.inl hin)))
                      rw [hd]
                      clear hin hd
                      go_wp2_with fail
                      go_quiet (fail)
                      go_wp2_with fail
                      go_roundw
                      case rel => exact ⟨q + 1, _, by go_num, by omega, by rw [HD2.out], rfl⟩
                      case measure => simp [intOf]; omega
                    · have hd : decide (m ∈ ls.take q) = false := decide_eq_false hin
                      rw [hd]
                      by_cases hxm : x = m
                      · have hv : valEqB x.t x.n x.s m.t m.n m.s = true := by rw [valEqB_val]; exact decide_eq_true hxm
                        have HD2 := Lib.hid (show decide (m ∈ ls.take (q + 1)) = true from decide_eq_true (HMEM.out.2 (.inr hxm.symm)))
                        clear hin hd hxm
                        go_wp2_with fail
                        go_quiet (fail)
                        go_wp2_with fail
                        go_roundw
                        case rel => exact ⟨q + 1, _, by go_num, by omega, by rw [HD2.out], rfl⟩
                        case measure => simp [intOf]; omega
                      · have hv : valEqB x.t x.n x.s m.t m.n m.s = false := by rw [valEqB_val]; exact decide_eq_false hxm
                        have HD2 := Lib.hid (show decide (m ∈ ls.take (q + 1)) = false from decide_eq_false (fun h => (HMEM.out.1 h).elim hin (fun e => hxm e.symm)))
                        clear hin hd hxm
                        go_wp2_with fail
                        go_quiet (fail)
                        go_wp2_with fail
                        go_roundw
                        case rel => exact ⟨q + 1, _, by go_num, by omega, by rw [HD2.out], rfl⟩
                        case measure => simp [intOf]; omega
                  · have hqN : q = NL := by omega
                    have h3 : ¬ (q : Int) < (NL : Int) := by omega
                    rw [List.take_of_length_le (by rw [HNL.out]; omega)]
                    have HSQ := Lib.hid (HSJ.out.drewN n0)
                    by_cases hin : m ∈ ls
                    · have hd : decide (m ∈ ls) = true := decide_eq_true hin
                      rw [hd]
                      have HT2 := Lib.hid (HTJ.out.skip (M' := rest ms (j + 1)) (fun x hx => by rw [rest_next HMJ.out]; exact ⟨fun h => h.1, fun h => ⟨h, fun e => hx (e ▸ hin)⟩⟩))
                      clear hin hd
                      go_wp2_with fail
                      exact ⟨⟨j + 1, LB, TB, by simp, by omega, HT2.out, HGJ.out.1, HGJ.out.2.1.more, HGJ.out.2.2.1, HGJ.out.2.2.2.more, HSQ.out⟩, by simp [intOf]; omega⟩
                    · have hd : decide (m ∈ ls) = false := decide_eq_false hin
                      rw [hd]
                      have HT2 := Lib.hid (HTJ.out.rem (M' := rest ms (j + 1)) HGJ.out.2.2.1.right hin (fun x => rest_next HMJ.out x))
                      clear hin hd
                      go_wp2_with ((go_at_call 18; refine (Delete_ok m HGJ.out.2.2.1 HGJ.out.2.2.2 (by omega) (treeOpen HSQ.out.swap)).mono ?_; rintro e7 w7 ⟨TB2, rfl, ha7, hn7⟩; have HA7 := Lib.hid ha7.close.swap; have HN7 := Lib.hid hn7; clear ha7 hn7 b0 b1 b2))
                      exact ⟨⟨j + 1, _, TB2, by simp, by omega, HT2.out, HGJ.out.1, HGJ.out.2.1.more, HN7.out.good, HN7.out.small HGJ.out.2.2.2, HA7.out⟩, by simp [intOf]; omega⟩
              · have hjM : j = NM := by omega
                have h1 : ¬ (j : Int) < (NM : Int) := by omega
                clear hlt
                have hones : Ones ls LB := htw.ones (fun x hx => by rw [hjM] at hx; exact absurd hx (by rw [← HNM.out]; exact rest_end ms x))
                obtain rfl : LB = LA := sorted_ext hgb.sorted hga.sorted (fun p => by rw [hones p, HOA.out p])
                have hsl := hsa.len
                obtain ⟨o6, c6, rfl⟩ : ∃ o6 c6, v6 = .slice o6 LB.length c6 := by
                  obtain ⟨_, _, ao, cap, hv, _⟩ := (hsat.own 2 rfl).rd
                  exact ⟨ao, cap, hv⟩
                have hll : LB.length ≤ 300 := by omega
                generalize hNB : LB.length = NB at hll
                have HNB := Lib.hid hNB
                have HGG := Lib.hid (And.intro hga hgb)
                have HSF := Lib.hid (show Sat w (heapOf w) wr (treeG ta TA :: treeG tb TB :: [ownS tP 4 (.slice o6 NB c6) NB (LB.flatMap pcells)]) by have := hsat; unfold rowP at this; rw [hNB] at this; exact this)
                clear hones hga hsa hgb hsb hsat htw hsl hNB hjM
                go_wp2_with fail
                go_loopw [16] (fun idx wr => ∃ (j : Nat), idx = .int .i64 j ∧ 1 ≤ j ∧ j ≤ NB + 1 ∧ Sat w (heapOf w) wr (treeG ta TA :: treeG tb TB :: [ownS tP 4 (.slice o6 NB c6) NB (LB.flatMap pcells)])) (fun idx _ => NB + 1 - (intOf idx).toNat)
                case atStart => exact ⟨1, rfl, by omega, by omega, HSF.out⟩
                case round =>
                  obtain ⟨j2, rfl, hj1, hj2, hs2⟩ := hrel
                  have HS2 := Lib.hid hs2
                  by_cases hlt : j2 < NB
                  · obtain ⟨p, hp⟩ : ∃ p, LB[j2 - 1]? = some p := ⟨LB[j2 - 1]'(by rw [HNB.out]; omega), List.getElem?_eq_getElem _⟩
                    obtain ⟨q, hq⟩ : ∃ q, LB[j2]? = some q := ⟨LB[j2]'(by rw [HNB.out]; exact hlt), List.getElem?_eq_getElem _⟩
                    have hpq : valCmp p.1 q.1 < 0 := by
                      have l1 := (List.getElem?_eq_some_iff.1 hp).1
                      have l2 := (List.getElem?_eq_some_iff.1 hq).1
                      have := List.pairwise_iff_getElem.1 HGG.out.1.sorted (j2 - 1) j2 l1 l2 (by omega)
                      rw [List.getElem?_eq_getElem l1] at hp
                      rw [List.getElem?_eq_getElem l2] at hq
                      rw [Option.some.inj hp, Option.some.inj hq] at this
                      exact this
                    have hrd := (hs2.own 2 rfl).rd
                    obtain ⟨pg, po, rfl⟩ := pair_src hrd hq HNB.out
                    obtain ⟨y0, y1, y2, y3⟩ := pair_cells hrd hp
                    obtain ⟨z0, z1, z2, z3⟩ := pair_cells hrd hq
                    have hi1 : (j2 : Int) < (NB : Int) := by omega
                    have hi2 : ((j2 - 1 : Nat) : Int) < (NB : Int) := by omega
                    have hw : IntKind.i64.wrap ((j2 : Int) - 1) = ((j2 - 1 : Nat) : Int) := by rw [i64w _ (by omega) (by omega)]; omega
                    have hn : ¬ (valCmp p.1 q.1 ≥ 0) := by omega
                    have HFP := Lib.hid (HFIT.out p (List.mem_of_getElem? hp))
                    have HFQ := Lib.hid (HFIT.out q (List.mem_of_getElem? hq))
                    clear hp hq hpq hrd hs2
                    go_upto_region 37 with (fail)
                    refine wp_region_canon [(0, false, 11), (1, false, 11), (2, false, 11), (3, false, 11), (4, false, 11), (5, false, 11), (6, false, 11), (7, false, 11), (8, false, 11), (9, false, 11), (10, false, 11), (11, true, 0), (12, false, 999)] (by kernel_rfl) (by kernel_rfl) ?_
                    iterate 11 (refine wpCan_read rfl rfl (fun K hK => ?_); go_simp; refine hK _ ?_; clear hK K)
                    refine wpCan_eff rfl ?_
                    refine wpList_do rfl (fun K hK => ?_)
                    go_simp
                    refine (rcmp_ok p.1 q.1 HFP.out HFQ.out _).mono ?_
                    rintro e8 w8 ⟨rfl, hk8⟩
                    have HS8 := Lib.hid (HS2.out.drew.kept hk8)
                    clear hk8 y0 y1 y2 y3 z0 z1 z2 z3
                    refine hK _ _ ?_
                    clear hK K
                    refine wpList_nil ?_
                    refine And.intro ?_ ?_
                    · go_simp
                    iterate 1 (refine wpCan_read rfl rfl (fun K hK => ?_); go_simp; refine hK _ ?_; clear hK K)
                    refine wpCan_nil ?_
                    go_wp2_with fail
                    go_roundw
                    case rel => exact ⟨j2 + 1, by go_num, by omega, by omega, HS8.out⟩
                    case measure => simp [intOf]; omega
                  · have h0 : ¬ (j2 : Int) < (NB : Int) := by omega
                    clear hlt hs2
                    have HQB := Lib.hid (HGG.out.2.tells spn0)
                    rw [inS0] at HQB
                    have HMA := Lib.hid (show TA.k.many = (NB : Int) by rw [HGG.out.1.many, HNB.out])
                    have HMB := Lib.hid (show TB.k.many = (NB : Int) by rw [HGG.out.2.many, HNB.out])
                    go_wp2_with (first | (go_at_call 13; refine (pairs_ok (s := spn0) HQB.out (by rw [HNB.out]; omega) (treeOpen HS2.out.swap)).mono ?_; rintro e9 w9 ⟨v9, rfl, ha9⟩; have HA9 := Lib.hid ha9; clear ha9) | (go_at_call 15; refine (psame_ok (l1 := LB) (l2 := LB) (by have := (HA9.out.own 2 rfl).rd; unfold PairRd; rw [HNB.out]; exact this) (HA9.out.own 0 rfl).rd).mono ?_; rw [decide_eq_true (Eq.refl LB)]; rintro e10 w10 ⟨rfl, n10, hn10⟩; have HA10 := Lib.hid (HA9.out.kept (w' := w10) (by rw [hn10]; exact (Kept.refl _ _).drewN _)); clear hn10) | (go_at_call 20; refine (Len_ok (treeOpen (HA10.out.close.perm (List.perm_middle (l₁ := [treeG tb TB, ownS tP 4 v9 LB.length (LB.flatMap pcells)])).symm.symm))).mono ?_; rw [HMA.out]; rintro e11 w11 ⟨rfl, rfl⟩) | (go_at_call 20; refine (Len_ok HA10.out).mono ?_; rw [HMB.out]; rintro e12 w12 ⟨rfl, rfl⟩))
                    go_ret
                    exact ⟨rfl, HA10.out.end_ (PH.le.refl _)⟩
end Go.Proofs.Ytjijemeabfiipaa
