/- StorePlays: the walk. -/
import Derived.Test.YtcbklkcpjldcjaaJ45
import Derived.Deep.MidRow
namespace Go.Proofs.Ytcbklkcpjldcjaa
open Go.ChangeShapes Go.WideShapes Go.ChangeAt Go.RowKit
set_option maxRecDepth 100000
set_option linter.unusedSimpArgs false

theorem spn0_fits : spn0.fits := ⟨Nat.zero_le maxLen, Nat.zero_le maxLen⟩

theorem setRow_alloc (w : World) (z cs : Array Value) (t : TypeId) : (w.alloc (.cells z t)).setRow w.heap.size cs = w.alloc (.cells cs t) := by
  unfold World.setRow World.alloc
  congr 1
  apply Array.ext_getElem?
  intro k
  simp only [Array.getElem?_modify, Array.getElem?_push]
  by_cases hk : k = w.heap.size
  · subst hk; simp
  · simp [hk, Ne.symm hk]
/-- what is stored whole into a variable that was just made -/
theorem wpList_store_new {P : Program} {ops : Array Oper} {rest : List Oper} {o : Oper} {a : Act} {w : World} {Q : Exit → Act → World → Prop} (hgd : o.guard = none) (ty : TypeId) (x y : Operand) (ho : o.op = .store ty x y)
    (cells z : Array Value) (t : TypeId) (hx : a.eval x = .pointer (some ⟨w.heap.size, 0, none⟩)) (hy : a.eval y = .agg cells) (hi : (P.info? ty).map (·.size) = some cells.size)
    (hold : z.size = cells.size) (h1 : cells.all (·.oneCell') = true)
    (h : wpList P ops Q rest (a.put o.dst undef) (w.alloc (.cells cells t))) : wpList P ops Q (o :: rest) a (w.alloc (.cells z t)) :=
  wpList_store_row hgd ty x y ho w.heap.size cells hx hy t z (heap_alloc_self w _) hi hold h1 (by rw [setRow_alloc]; exact h)
theorem act_all1 (a : ActS) : a.cells.toArray.all (·.oneCell') = true := by simp [ActS.cells, Value.oneCell']
theorem blk_range {w : World} {b : Nat} {cs : List Value} {t : TypeId} {fr : Nat × Nat} (h : w.heap[b]? = some (.cells cs.toArray t fr)) : w.rangeAt b 0 cs := fun j v hv => by
  rw [cell_of_row w b (0 + j) cs.toArray t fr h, Nat.zero_add]
  simpa using hv

set_option maxHeartbeats 16000000 in
theorem plays_ok {w : World} {tv sv : Value} {cs : List (List Bool)} {xs : List ActS} (room : Int) (hT : TabsD (heapOf w) tv cs) (hA : RdP (heapOf w) 18 sv xs.length (xs.flatMap ActS.cells)) (hO : ∀ a ∈ xs, ActOk (heapOf w) a) :
    Calls Try.prog 5 #[tv, .int .i64 room, sv] w fun e w' => e = .returned (.bool true) ∧ Kept (fun _ => False) w w' := by
  obtain ⟨ta, tc, rfl⟩ := hT.shape
  obtain ⟨sa, sc, rfl⟩ := hA.shape
  have m1 : cs.length ≤ 9223372036854775807 := by obtain ⟨_, _, _, h3, _⟩ := id hT; exact h3.len
  have m2 := hA.len
  have HS0 := Lib.hid (Sat.start w)
  have HT := Lib.hid hT
  have HAS := Lib.hid hA
  have HO := Lib.hid hO
  clear hT hA hO
  obtain ⟨N, hN⟩ : ∃ N, xs.length = N := ⟨_, rfl⟩
  rw [hN] at m2 HAS ⊢
  have HN := Lib.hid hN
  clear hN
  by_cases hbig : (cs.length : Int) > 100
  · go_enter Try.func5, Try.ntmps5
    go_wp2_with (go_at_call 9; refine (awake_ok _).mono ?_; rintro e1 w1 ⟨rfl, hk1⟩; have HS1 := Lib.hid (HS0.out.kept hk1); clear hk1 HS0)
    go_ret
    exact ⟨rfl, HS1.out.end_ (PH.le.refl _)⟩
  cases hmay : mayNew cs room
  · have HM := Lib.hid hmay
    clear hmay
    go_enter Try.func5, Try.ntmps5
    go_wp2_with (first | (go_at_call 9; refine (awake_ok _).mono ?_; rintro e1 w1 ⟨rfl, hk1⟩; have HS1 := Lib.hid (HS0.out.kept hk1); clear hk1 HS0) | (go_at_call 10; refine (SNew_ok (cv := .slice ta cs.length tc) room (fun W X h => HT.out.rd h) HS1.out).mono ?_; rintro e2 w2 hp2; obtain ⟨rfl, hs2⟩ := new_no HM.out hp2; have HS2 := Lib.hid hs2; clear hs2 hp2 HS1) | (go_at_call 21; refine (rMay6_ok room (HT.out.rd HS2.out)).mono ?_; rw [HM.out]; rintro e3 w3 ⟨rfl, hk3⟩; have HS3 := Lib.hid (HS2.out.kept hk3); clear hk3 HS2))
    go_ret
    exact ⟨rfl, HS3.out.end_ (PH.le.refl _)⟩
  have HM := Lib.hid hmay
  clear hmay
  go_enter Try.func5, Try.ntmps5
  go_upto_region 12 with (first | (go_at_call 9; refine (awake_ok _).mono ?_; rintro e1 w1 ⟨rfl, hk1⟩; have HS1 := Lib.hid (HS0.out.kept hk1); clear hk1 HS0) | (go_at_call 10; refine (SNew_ok (cv := .slice ta cs.length tc) room (fun W X h => HT.out.rd h) HS1.out).mono ?_; rintro e2 w2 hp2; obtain ⟨s, rfl, hs2⟩ := new_yes HM.out hp2; have HS2 := Lib.hid hs2; clear hs2 hp2 HS1) | (go_at_call 21; refine (rMay6_ok room (HT.out.rd HS2.out)).mono ?_; rw [HM.out]; rintro e3 w3 ⟨rfl, hk3⟩; have HS3 := Lib.hid (HS2.out.kept hk3); clear hk3 HS2))
  have HS4 := Lib.hid ((HS3.out.own_nil tPl 6).alloc #[.slice ta cs.length tc, .int .i64 room, .slice none 0 0, .int .i64 0] tRf)
  clear HS3
  go_upto_region 13 with fail
  obtain ⟨W3, hW3, hs3⟩ := Sat.hide HS4.out
  rw [← hW3]
  clear hW3 HS4
  have HS5 := Lib.hid hs3
  clear hs3
  generalize w3.heap.size = bw at HS5 ⊢
  have HI0 := Lib.hid (newM_good HM.out)
  go_wp2_with fail
  go_loopw [11] (fun i wr => ∃ (j : Nat) (A : StM) (L : List Pl) (lv : Value), i = .int .i64 j ∧ j ≤ N ∧ j ≤ 60 ∧ StI j A ∧ RefI (heapOf w) L A ∧ A.cols = cs ∧ A.room = room ∧ Sat w (heapOf w) wr [blk bw #[.slice ta cs.length tc, .int .i64 A.room, lv, .int .i64 A.last] tRf, plsP lv L, storeB s j A]) (fun i _ => N - (intOf i).toNat)
  case atStart => exact ⟨0, newM cs room, [], .slice none 0 0, rfl, by omega, by omega, HI0.out, newM_ref _ cs room, rfl, rfl, HS5.out⟩
  case round =>
    obtain ⟨j, A, L, lv, rfl, hj1, hj2, hI, hR, rfl, rfl, hs⟩ := hrel
    obtain ⟨lo, lc, rfl⟩ := (hs.front 1 rfl).own_shape
    have HI := Lib.hid hI
    have HR := Lib.hid hR
    have HS := Lib.hid hs
    clear hI hR hs HS5 HI0
    by_cases hlt : j < N
    · have hi : (j : Int) < (N : Int) := by omega
      by_cases h60 : j < 60
      · have hi60 : (j : Int) < 60 := by omega
        obtain ⟨a, ha⟩ : ∃ a, xs[j]? = some a := ⟨xs[j]'(by rw [HN.out]; exact hlt), List.getElem?_eq_getElem _⟩
        obtain ⟨g, og, rfl, hcell⟩ := act_at (HAS.out.rd HS.out) ha HN.out
        have HOA := Lib.hid (HO.out a (List.mem_of_getElem? ha))
        have HRNG := Lib.hid (show wr.rangeAt g (og + j * 18) a.cells from fun i u hu => by rw [Nat.add_assoc]; exact hcell i u hu)
        clear hcell ha
        have HSA := Lib.hid (HS.out.alloc a.cells.toArray tAct)
        go_upto_region 17 with (first | (refine wpList_load_mid rfl _ _ rfl g (og + j * 18) rfl a.cells _ HRNG.out Try.underlying48 rfl (by kernel_rfl) ?_) | (refine wpList_store_new rfl _ _ _ rfl a.cells.toArray _ _ rfl rfl (by kernel_rfl) rfl (act_all1 a) ?_))
        obtain ⟨wa, hwa, hsa⟩ := Sat.hide HSA.out
        rw [← hwa]
        clear hwa HSA HRNG HS
        have HSA := Lib.hid hsa
        clear hsa
        generalize wr.heap.size = ba at HSA ⊢
        obtain ⟨a0, a1, a2, a3, a4, a5, a6⟩ := ActS.at (HSA.out.blk 0 rfl)
        by_cases hr : (a.rn : Int) > 100
        · go_wp2_with fail
          go_ret
          exact ⟨rfl, HSA.out.drop.drop.drop.drop.end_ (PH.le.refl _)⟩
        go_upto_region 19 with fail
        have HRB := Lib.hid (blk_range (HSA.out.blk 0 rfl))
        clear a0 a1 a2 a3 a4 a5 a6
        obtain ⟨b0, b1, b2, b3, bf⟩ := cells4 (HSA.out.blk 1 rfl)
        have HSB := Lib.hid ((HSA.out.front 3 rfl).front 3 rfl)
        clear HSA
        go_upto_region 20 with (first | (refine wpList_load_mid rfl _ _ rfl ba 0 rfl a.cells _ HRB.out Try.underlying48 rfl (by kernel_rfl) ?_) | (go_at_call 22; refine (done_ok (a := a) HT.out HOA.out HI.out (by omega) HR.out HSB.out).mono ?_; rintro e5 w5 ⟨A', L', lv', rfl, hI', hR', hc', hm', hs5⟩; obtain ⟨o5, p5, rfl⟩ := hs5.own_shape; have HI' := Lib.hid hI'; have HR' := Lib.hid hR'; have HC' := Lib.hid hc'; have HM' := Lib.hid hm'; have HS5 := Lib.hid (hs5.alloc #[.slice ta A.cols.length tc, .int .i64 A.room, .slice o5 L'.length p5, .int .i64 A'.last] tRf); clear hI' hR' hc' hm' hs5 HSB HRB b0 b1 b2 b3 bf))
        obtain ⟨W6, hW6, hs6⟩ := Sat.hide HS5.out
        rw [← hW6]
        clear hW6 HS5
        generalize w5.heap.size = bx at hs6 ⊢
        obtain ⟨x0, x1, x2, x3, xf⟩ := cells4 (hs6.blk 0 rfl)
        obtain ⟨b0, b1, b2, b3, bf⟩ := cells4 (hs6.blk 4 rfl)
        have HS6 := Lib.hid (Sat.set4 (hs6.front 4 rfl) (.slice ta A.cols.length tc) (.int .i64 A.room) (.slice o5 L'.length p5) (.int .i64 A'.last))
        clear hs6
        go_upto_region 21 with fail
        clear x0 x1 x2 x3 xf b0 b1 b2 b3 bf
        obtain ⟨W7, hW7, hs7⟩ := Sat.hide HS6.out
        rw [← hW7]
        clear hW7 HS6
        obtain ⟨a0, a1, a2, a3, a4, a5, a6⟩ := ActS.at (hs7.blk 4 rfl)
        have HS7 := Lib.hid (hs7.front 3 rfl)
        clear hs7
        obtain ⟨gv, hgv, hgd⟩ := row_same HR'.out HI'.out a.t a.k
        obtain ⟨ga, gc, rfl⟩ := hgd.shape
        generalize hgn : gnum A' a.t a.k = gn at hgv
        generalize hgb : gotM A' a.t a.k = gb at hgv
        have HGV := Lib.hid hgv
        have HGD := Lib.hid hgd
        have HGN := Lib.hid hgn
        have HGB := Lib.hid hgb
        clear hgv hgd hgn hgb
        go_upto_region 22 with (go_at_call 14; refine (Get_okB a.t a.k HI'.out HS7.out).mono ?_; rw [HGN.out, HGB.out]; rintro e8 w8 ⟨v8, rfl, hs8⟩; obtain ⟨o8, c8, rfl⟩ := hs8.own_shape; have HS8 := Lib.hid hs8; clear hs8 HS7 a0 a1 a2 a3 a4 a5 a6)
        obtain ⟨a0, a1, a2, a3, a4, a5, a6⟩ := ActS.at (HS8.out.blk 5 rfl)
        obtain ⟨b0, b1, b2, b3, bf⟩ := cells4 (HS8.out.blk 2 rfl)
        go_upto_region 23 with (go_at_call 23; refine (rGet_ok a.t a.k (HS8.out.own 4 rfl).rd).mono ?_; rw [HGV.out]; rintro e9 w9 ⟨rfl, hk9⟩; have HS9 := Lib.hid (HS8.out.kept hk9); clear hk9 HS8 a0 a1 a2 a3 a4 a5 a6 b0 b1 b2 b3 bf)
        obtain ⟨b0, b1, b2, b3, bf⟩ := cells4 (HS9.out.blk 2 rfl)
        have HU := Lib.hid (HR'.out.len HI'.out)
        refine wp_region_canon [(0, false, 15), (1, false, 15), (2, false, 15), (3, false, 15), (4, false, 15), (5, false, 15), (6, false, 15), (7, false, 15), (8, false, 15), (9, false, 15), (10, false, 15), (11, false, 15), (12, false, 15), (13, false, 15), (14, false, 15), (15, true, 0), (16, false, 20), (17, false, 20), (18, false, 20), (19, false, 20), (21, false, 999), (22, false, 999), (23, false, 999), (20, true, 0), (24, false, 999), (25, false, 999)] (by kernel_rfl) (by kernel_rfl) ?_
        iterate 3 (refine wpCan_read rfl rfl (fun K hK => ?_); go_simp; refine hK _ ?_; clear hK K)
        first | (refine wpCan_no rfl rfl ?_; simp only [Act.put, List.setIfInBounds_toArray, List.set_cons_succ, List.set_cons_zero, List.getElem_toArray, List.getElem_cons_succ, List.getElem_cons_zero]) | (refine wpCan_yes rfl rfl (fun K hK => ?_); go_simp; refine hK _ ?_; clear hK K)
        first | (refine wpCan_no rfl rfl ?_; simp only [Act.put, List.setIfInBounds_toArray, List.set_cons_succ, List.set_cons_zero, List.getElem_toArray, List.getElem_cons_succ, List.getElem_cons_zero]) | (refine wpCan_yes rfl rfl (fun K hK => ?_); go_simp; refine hK _ ?_; clear hK K)
        first | (refine wpCan_no rfl rfl ?_; simp only [Act.put, List.setIfInBounds_toArray, List.set_cons_succ, List.set_cons_zero, List.getElem_toArray, List.getElem_cons_succ, List.getElem_cons_zero]) | (refine wpCan_yes rfl rfl (fun K hK => ?_); go_simp; refine hK _ ?_; clear hK K)
        iterate 2 (refine wpCan_read rfl rfl (fun K hK => ?_); go_simp; refine hK _ ?_; clear hK K)
        first | (refine wpCan_no rfl rfl ?_; simp only [Act.put, List.setIfInBounds_toArray, List.set_cons_succ, List.set_cons_zero, List.getElem_toArray, List.getElem_cons_succ, List.getElem_cons_zero]) | (refine wpCan_yes rfl rfl (fun K hK => ?_); go_simp; refine hK _ ?_; clear hK K)
        first | (refine wpCan_no rfl rfl ?_; simp only [Act.put, List.setIfInBounds_toArray, List.set_cons_succ, List.set_cons_zero, List.getElem_toArray, List.getElem_cons_succ, List.getElem_cons_zero]) | (refine wpCan_yes rfl rfl (fun K hK => ?_); go_simp; refine hK _ ?_; clear hK K)
        first | (refine wpCan_no rfl rfl ?_; simp only [Act.put, List.setIfInBounds_toArray, List.set_cons_succ, List.set_cons_zero, List.getElem_toArray, List.getElem_cons_succ, List.getElem_cons_zero]) | (refine wpCan_yes rfl rfl (fun K hK => ?_); go_simp; refine hK _ ?_; clear hK K)
        iterate 2 (refine wpCan_read rfl rfl (fun K hK => ?_); go_simp; refine hK _ ?_; clear hK K)
        first | (refine wpCan_no rfl rfl ?_; simp only [Act.put, List.setIfInBounds_toArray, List.set_cons_succ, List.set_cons_zero, List.getElem_toArray, List.getElem_cons_succ, List.getElem_cons_zero]) | (refine wpCan_yes rfl rfl (fun K hK => ?_); go_simp; refine hK _ ?_; clear hK K)
        first | (refine wpCan_no rfl rfl ?_; simp only [Act.put, List.setIfInBounds_toArray, List.set_cons_succ, List.set_cons_zero, List.getElem_toArray, List.getElem_cons_succ, List.getElem_cons_zero]) | (refine wpCan_yes rfl rfl (fun K hK => ?_); go_simp; refine hK _ ?_; clear hK K)
        refine wpCan_eff rfl ?_
        refine wpList_do rfl (fun K hK => ?_)
        go_simp
        refine (rsame_ok (HS9.out.drew.own 0 rfl).rd (HGD.out.rd HS9.out.drew)).mono ?_
        simp only [decide_true]
        rintro e10 w10 ⟨rfl, n10, hn10⟩
        have HS10 := Lib.hid (show Sat w (heapOf w) w10 _ from hn10 ▸ (HS9.out.drew.drewN n10))
        clear hn10 HS9 b0 b1 b2 b3 bf
        obtain ⟨b0, b1, b2, b3, bf⟩ := cells4 (HS10.out.blk 2 rfl)
        refine hK _ _ ?_
        clear hK K
        refine wpList_nil ?_
        refine And.intro ?_ ?_
        · go_simp
        first | (refine wpCan_no rfl rfl ?_; simp only [Act.put, List.setIfInBounds_toArray, List.set_cons_succ, List.set_cons_zero, List.getElem_toArray, List.getElem_cons_succ, List.getElem_cons_zero]) | (refine wpCan_yes rfl rfl (fun K hK => ?_); go_simp; refine hK _ ?_; clear hK K)
        iterate 2 (refine wpCan_read rfl rfl (fun K hK => ?_); go_simp; refine hK _ ?_; clear hK K)
        first | (refine wpCan_no rfl rfl ?_; simp only [Act.put, List.setIfInBounds_toArray, List.set_cons_succ, List.set_cons_zero, List.getElem_toArray, List.getElem_cons_succ, List.getElem_cons_zero]) | (refine wpCan_yes rfl rfl (fun K hK => ?_); go_simp; refine hK _ ?_; clear hK K)
        first | (refine wpCan_no rfl rfl ?_; simp only [Act.put, List.setIfInBounds_toArray, List.set_cons_succ, List.set_cons_zero, List.getElem_toArray, List.getElem_cons_succ, List.getElem_cons_zero]) | (refine wpCan_yes rfl rfl (fun K hK => ?_); go_simp; refine hK _ ?_; clear hK K)
        first | (refine wpCan_no rfl rfl ?_; simp only [Act.put, List.setIfInBounds_toArray, List.set_cons_succ, List.set_cons_zero, List.getElem_toArray, List.getElem_cons_succ, List.getElem_cons_zero]) | (refine wpCan_yes rfl rfl (fun K hK => ?_); go_simp; refine hK _ ?_; clear hK K)
        first | (refine wpCan_no rfl rfl ?_; simp only [Act.put, List.setIfInBounds_toArray, List.set_cons_succ, List.set_cons_zero, List.getElem_toArray, List.getElem_cons_succ, List.getElem_cons_zero]) | (refine wpCan_yes rfl rfl (fun K hK => ?_); go_simp; refine hK _ ?_; clear hK K)
        refine wpCan_eff rfl ?_
        refine wpList_do rfl (fun K hK => ?_)
        go_simp
        refine (Used_ok (HS10.out.front 1 rfl)).mono ?_
        rw [← HU.out]
        rintro e11 w11 ⟨rfl, rfl⟩
        refine hK _ _ ?_
        clear hK K
        refine wpList_nil ?_
        refine And.intro ?_ ?_
        · go_simp
        first | (refine wpCan_no rfl rfl ?_; simp only [Act.put, List.setIfInBounds_toArray, List.set_cons_succ, List.set_cons_zero, List.getElem_toArray, List.getElem_cons_succ, List.getElem_cons_zero]) | (refine wpCan_yes rfl rfl (fun K hK => ?_); go_simp; refine hK _ ?_; clear hK K)
        iterate 1 (refine wpCan_read rfl rfl (fun K hK => ?_); go_simp; refine hK _ ?_; clear hK K)
        refine wpCan_nil ?_
        have HS11 := Lib.hid (show Sat w (heapOf w) _ [storeB s (j + 1) A', plsP (.slice o5 L'.length p5) L', blk bw #[.slice ta A.cols.length tc, .int .i64 A.room, .slice o5 L'.length p5, .int .i64 A'.last] tRf] from (((HS10.out.drop.front 4 rfl).drop.front 2 rfl).drop.front 2 rfl).front 1 rfl)
        clear HS10 b0 b1 b2 b3 bf HGV HGD HGN HGB HU
        go_wp2_with fail
        go_loopw [21] (fun i wr2 => ∃ t : Nat, i = .int .i64 t ∧ t ≤ A.cols.length ∧ Sat w (heapOf w) wr2 [storeB s (j + 1) A', plsP (.slice o5 L'.length p5) L', blk bw #[.slice ta A.cols.length tc, .int .i64 A.room, .slice o5 L'.length p5, .int .i64 A'.last] tRf]) (fun i _ => A.cols.length - (intOf i).toNat)
        case atStart => exact ⟨0, rfl, by omega, HS11.out⟩
        case round =>
          obtain ⟨t, rfl, ht, hs12⟩ := hrel
          have HS12 := Lib.hid hs12
          clear hs12 HS11
          by_cases htt : t < A.cols.length
          · have hti : (t : Int) < (A.cols.length : Int) := by omega
            go_upto_region 28 with fail
            obtain ⟨b0, b1, b2, b3, bf⟩ := cells4 (HS12.out.blk 2 rfl)
            refine wp_region_canon [(0, false, 3), (1, false, 3), (2, false, 3), (4, false, 7), (5, false, 7), (6, false, 7), (3, true, 0), (7, true, 0), (8, true, 0), (9, false, 999)] (by kernel_rfl) (by kernel_rfl) ?_
            iterate 6 (refine wpCan_read rfl rfl (fun K hK => ?_); go_simp; refine hK _ ?_; clear hK K)
            refine wpCan_eff rfl ?_
            refine wpList_do rfl (fun K hK => ?_)
            go_simp
            refine (rows_ok (t : Int) spn0 HI'.out HS12.out.drew).mono ?_
            rintro e13 w13 ⟨v13, rfl, hs13⟩
            clear b0 b1 b2 b3 bf
            obtain ⟨b0, b1, b2, b3, bf⟩ := cells4 (hs13.blk 3 rfl)
            have HS13 := Lib.hid (hs13.front 2 rfl)
            clear hs13 HS12
            refine hK _ _ ?_
            clear hK K
            refine wpList_nil ?_
            refine And.intro ?_ ?_
            · go_simp
            refine wpCan_eff rfl ?_
            refine wpList_do rfl (fun K hK => ?_)
            go_simp
            refine (rScan_ok (t : Int) spn0 spn0_fits (HR'.out.lok HI'.out) HS13.out).mono ?_
            rintro e14 w14 ⟨v14, rfl, hs14⟩
            clear b0 b1 b2 b3 bf
            have HRD2 := Lib.hid (scanR_rd HR'.out HI'.out (t : Int) spn0 hs14)
            have HRD1 := Lib.hid (rowsP_rd (hs14.front 2 rfl))
            have HS14 := Lib.hid hs14
            clear hs14 HS13
            refine hK _ _ ?_
            clear hK K
            refine wpList_nil ?_
            refine And.intro ?_ ?_
            · go_simp
            refine wpCan_eff rfl ?_
            refine wpList_do rfl (fun K hK => ?_)
            go_simp
            refine (rRows_ok HRD1.out HRD2.out).mono ?_
            simp only [decide_true]
            rintro e15 w15 ⟨rfl, hk15⟩
            have HS15 := Lib.hid (HS14.out.kept hk15)
            clear hk15 HS14 HRD1 HRD2
            refine hK _ _ ?_
            clear hK K
            refine wpList_nil ?_
            refine And.intro ?_ ?_
            · go_simp
            iterate 1 (refine wpCan_read rfl rfl (fun K hK => ?_); go_simp; refine hK _ ?_; clear hK K)
            refine wpCan_nil ?_
            go_wp2_with fail
            go_roundw
            case rel => exact ⟨t + 1, by go_num, by omega, ((HS15.out.drop.front 1 rfl).drop.front 1 rfl)⟩
            case measure => simp [intOf]; omega
          · have hti : ¬ ((t : Int) < (A.cols.length : Int)) := by omega
            go_wp2_with fail
            go_roundw
            case rel => exact ⟨j + 1, A', L', .slice o5 L'.length p5, by go_num, by omega, by omega, HI'.out, HR'.out, HC'.out, HM'.out, by rw [HM'.out]; exact HS12.out.perm (List.reverse_perm _).symm⟩
            case measure => simp [intOf]; omega
      · have hi60 : ¬ ((j : Int) < 60) := by omega
        go_wp2_with fail
        go_ret
        exact ⟨rfl, HS.out.drop.drop.drop.end_ (PH.le.refl _)⟩
    · have hi : ¬ ((j : Int) < (N : Int)) := by omega
      go_wp2_with fail
      go_ret
      exact ⟨rfl, HS.out.drop.drop.drop.end_ (PH.le.refl _)⟩
end Go.Proofs.Ytcbklkcpjldcjaa
