/- Any act; a store behind a script. (printed by genst26.py) -/
import Derived.Test.YtcbklkcpjldcjaaJ44
namespace Go.Proofs.Ytcbklkcpjldcjaa
open Go.ChangeShapes Go.WideShapes Go.ChangeAt Go.RowKit
set_option maxRecDepth 100000
set_option linter.unusedSimpArgs false

theorem done_ok {B w : World} {D : PH} {s n : Nat} {tv lv : Value} {A : StM} {L : List Pl} {l : List HP} {a : ActS} (hT : TabsD D tv A.cols) (ha : ActOk D a) (hI : StI n A) (hn : n ≤ 300) (hR : RefI D L A) (h : Sat B D w (plsP lv L :: storeB s n A :: l)) :
    Calls Try.prog 22 #[.pointer (some ⟨s, 0, none⟩), refV tv A.room lv A.last, a.v] w (DoneQ B D s n tv A l) := by
  by_cases q01 : bits .and .i64 a.kind 7 = 0 ∨ bits .and .i64 a.kind 7 = 1
  · exact doneIns_ok hT ha hI hn hR q01 h
  by_cases q2 : bits .and .i64 a.kind 7 = 2
  · exact doneRep_ok hT ha hI hn hR q2 h
  by_cases q3 : bits .and .i64 a.kind 7 = 3
  · exact doneRmv_ok hT ha hI hn hR q3 h
  by_cases q4 : bits .and .i64 a.kind 7 = 4
  · exact doneRst_ok hT ha hI hn hR q4 h
  by_cases q5 : bits .and .i64 a.kind 7 = 5
  · exact doneFre_ok hT ha hI hn hR q5 h
  have q0 : ¬ bits .and .i64 a.kind 7 = 0 := fun h => q01 (.inl h)
  have q1 : ¬ bits .and .i64 a.kind 7 = 1 := fun h => q01 (.inr h)
  exact doneScan_ok hT ha hI hn hR (by simpa using q0) (by simpa using q1) (by simpa using q2) (by simpa using q3) (by simpa using q4) (by simpa using q5) h

theorem newM_ref (D : PH) (cs : List (List Bool)) (room : Int) : RefI D [] (newM cs room) := by
  refine ⟨?_, by simp, by simp, fun q h => absurd h (by simp)⟩
  show [] = flat 0 (newM cs room).tabs
  have : ∀ (n j : Nat), flat j (List.replicate n ([] : TabM)) = [] := by
    intro n
    induction n with
    | zero => intro j; rfl
    | succ n ih => intro j; rw [List.replicate_succ]; show [] ++ flat (j + 1) _ = []; rw [ih]; rfl
  exact (this _ _).symm

theorem new_no {B : World} {D : PH} {cs : List (List Bool)} {room : Int} {l : List HP} {e : Ending} {w' : World} (hm : mayNew cs room = false) (h : NewPost B D cs room l e w') : e = .returned (.pointer none) ∧ Sat B D w' l := by
  rcases h with ⟨_, h1, h2⟩ | ⟨h1, _⟩
  · exact ⟨h1, h2⟩
  · rw [hm] at h1; cases h1
/-- behind a script: no store, or one to which at most sixty things were done -/
def BehindQ (B : World) (D : PH) (cs : List (List Bool)) (room : Int) (l : List HP) (e : Ending) (w' : World) : Prop :=
  (e = .returned (.pointer none) ∧ Sat B D w' l) ∨ ∃ (s : Nat) (A : StM), e = .returned (.pointer (some ⟨s, 0, none⟩)) ∧ StI 60 A ∧ A.cols = cs ∧ A.room = room ∧ Sat B D w' (storeB s 60 A :: l)
/-- an act of a script -/
theorem act_at {w : World} {ao : Option Addr} {N cap j : Nat} {xs : List ActS} {a : ActS} (h : Rd w 18 (.slice ao N cap) N (xs.flatMap ActS.cells)) (ha : xs[j]? = some a) (hl : xs.length = N) : ∃ g og, ao = some ⟨g, og, none⟩ ∧ ∀ i u, a.cells[i]? = some u → w.cell? ⟨g, og + (j * 18 + i), none⟩ = some u := by
  have hlt := (List.getElem?_eq_some_iff.1 ha).1
  rcases h.2.2 with ⟨_, _, hv, _, _, _, hc⟩
  cases hv
  rcases hc with h0 | ⟨g, o, hg, hcell⟩
  · omega
  · exact ⟨g, o, hg, fun i u hu => hcell _ _ (flat_get ActS.len xs j a ha i u hu)⟩
theorem act_cells {w : World} {g og : Nat} {j : Nat} {a : ActS} (h : ∀ i u, a.cells[i]? = some u → w.cell? ⟨g, og + (j * 18 + i), none⟩ = some u) :
    w.cell? ⟨g, og + j * 18, none⟩ = some (.int .i64 a.kind) ∧ w.cell? ⟨g, og + j * 18 + 1, none⟩ = some (.int .i64 a.t) ∧ w.cell? ⟨g, og + j * 18 + 2, none⟩ = some (.bool a.k.t) ∧ w.cell? ⟨g, og + j * 18 + 3, none⟩ = some (.int .i64 a.k.n) ∧ w.cell? ⟨g, og + j * 18 + 4, none⟩ = some (.string a.k.s) ∧ w.cell? ⟨g, og + j * 18 + 5, none⟩ = some (.slice a.ro a.rn a.rc) ∧ w.cell? ⟨g, og + j * 18 + 6, none⟩ = some (.int .i64 a.num) ∧ w.cell? ⟨g, og + j * 18 + 7, none⟩ = some (.bool a.sp.no) ∧ w.cell? ⟨g, og + j * 18 + 8, none⟩ = some (.bool a.sp.hasLo) ∧ w.cell? ⟨g, og + j * 18 + 9, none⟩ = some (.bool a.sp.openLo) ∧ w.cell? ⟨g, og + j * 18 + 10, none⟩ = some (.bool a.sp.lo.t) ∧ w.cell? ⟨g, og + j * 18 + 11, none⟩ = some (.int .i64 a.sp.lo.n) ∧ w.cell? ⟨g, og + j * 18 + 12, none⟩ = some (.string a.sp.lo.s) ∧ w.cell? ⟨g, og + j * 18 + 13, none⟩ = some (.bool a.sp.hasHi) ∧ w.cell? ⟨g, og + j * 18 + 14, none⟩ = some (.bool a.sp.openHi) ∧ w.cell? ⟨g, og + j * 18 + 15, none⟩ = some (.bool a.sp.hi.t) ∧ w.cell? ⟨g, og + j * 18 + 16, none⟩ = some (.int .i64 a.sp.hi.n) ∧ w.cell? ⟨g, og + j * 18 + 17, none⟩ = some (.string a.sp.hi.s) := by
  have f := fun i u hu => by
    have := h i u hu
    rw [← Nat.add_assoc] at this
    exact this
  exact ⟨f 0 _ rfl, f 1 _ rfl, f 2 _ rfl, f 3 _ rfl, f 4 _ rfl, f 5 _ rfl, f 6 _ rfl, f 7 _ rfl, f 8 _ rfl, f 9 _ rfl, f 10 _ rfl, f 11 _ rfl, f 12 _ rfl, f 13 _ rfl, f 14 _ rfl, f 15 _ rfl, f 16 _ rfl, f 17 _ rfl⟩

set_option maxHeartbeats 8000000 in
theorem behind_ok {B w : World} {D : PH} {tv sv : Value} {cs : List (List Bool)} {xs : List ActS} {l : List HP} (room : Int) (hT : TabsD D tv cs) (hA : RdP D 18 sv xs.length (xs.flatMap ActS.cells)) (hO : ∀ a ∈ xs, ActOk D a) (h : Sat B D w l) :
    Calls Try.prog 17 #[tv, .int .i64 room, sv] w (BehindQ B D cs room l) := by
  obtain ⟨ta, tc, rfl⟩ := hT.shape
  obtain ⟨sa, sc, rfl⟩ := hA.shape
  have m1 : cs.length ≤ 9223372036854775807 := by obtain ⟨_, _, _, h3, _⟩ := id hT; exact h3.len
  have m2 := hA.len
  have HT := Lib.hid hT
  have HAS := Lib.hid hA
  have HO := Lib.hid hO
  have HS := Lib.hid h
  clear hT hA hO h
  by_cases hbig : (cs.length : Int) > 100
  · go_enter Try.func17, Try.ntmps17
    go_wp2_with fail
    go_ret
    exact .inl ⟨rfl, HS.out⟩
  have HNEW := Lib.hid (SNew_ok (cv := .slice ta cs.length tc) room (fun W X h => HT.out.rd h) HS.out)
  obtain ⟨N, hN⟩ : ∃ N, xs.length = N := ⟨_, rfl⟩
  rw [hN] at m2 HAS ⊢
  have HN := Lib.hid hN
  clear hN
  cases hmay : mayNew cs room
  · have HM := Lib.hid hmay
    clear hmay
    go_enter Try.func17, Try.ntmps17
    go_upto_region 4 with (go_at_call 10; refine HNEW.out.mono ?_; rintro e1 w1 hp1; obtain ⟨rfl, hs1⟩ := new_no HM.out hp1; have HS1 := Lib.hid hs1; clear hs1 hp1 HS HNEW)
    have HS2 := Lib.hid (HS1.out.alloc #[.slice ta cs.length tc, .int .i64 room, .slice none 0 0, .int .i64 0] tRf)
    go_upto_region 5 with fail
    clear HS1
    obtain ⟨W3, hW3, hs3⟩ := Sat.hide HS2.out
    rw [← hW3]
    clear hW3 HS2
    have HS3 := Lib.hid hs3
    clear hs3
    generalize w1.heap.size = bw at HS3 ⊢
    go_wp2_with fail
    go_loopw [9] (fun i wr => i = .int .i64 0 ∧ wr = W3) (fun _ _ => 0)
    case atStart => exact ⟨rfl, rfl⟩
    case round =>
      obtain ⟨rfl, rfl⟩ := hrel
      by_cases hlt : (0 : Int) < (N : Int)
      · go_wp2_with fail
        go_ret
        exact .inl ⟨rfl, HS3.out.drop⟩
      · go_wp2_with fail
        go_ret
        exact .inl ⟨rfl, HS3.out.drop⟩
  · have HM := Lib.hid hmay
    have HLEN := Lib.hid (show cs.length ≤ 100 by omega)
    clear hmay
    go_enter Try.func17, Try.ntmps17
    go_upto_region 4 with (go_at_call 10; refine HNEW.out.mono ?_; rintro e1 w1 hp1; obtain ⟨s, rfl, hs1⟩ := new_yes HM.out hp1; have HS1 := Lib.hid ((hs1.own_nil tPl 6).alloc #[.slice ta cs.length tc, .int .i64 room, .slice none 0 0, .int .i64 0] tRf); clear hs1 hp1 HS HNEW)
    go_upto_region 5 with fail
    obtain ⟨W3, hW3, hs3⟩ := Sat.hide HS1.out
    rw [← hW3]
    clear hW3 HS1
    have HS3 := Lib.hid hs3
    clear hs3
    generalize w1.heap.size = bw at HS3 ⊢
    have HI0 := Lib.hid (newM_good HM.out)
    go_wp2_with fail
    go_loopw [9] (fun i wr => ∃ (j : Nat) (A : StM) (L : List Pl) (lv : Value), i = .int .i64 j ∧ j ≤ N ∧ j ≤ 60 ∧ StI j A ∧ RefI D L A ∧ A.cols = cs ∧ A.room = room ∧ Sat B D wr (blk bw #[.slice ta cs.length tc, .int .i64 A.room, lv, .int .i64 A.last] tRf :: plsP lv L :: storeB s j A :: l)) (fun i _ => N - (intOf i).toNat)
    case atStart => exact ⟨0, newM cs room, [], .slice none 0 0, rfl, by omega, by omega, HI0.out, newM_ref D cs room, rfl, rfl, HS3.out⟩
    case round =>
      obtain ⟨j, A, L, lv, rfl, hj1, hj2, hI, hR, rfl, rfl, hs⟩ := hrel
      obtain ⟨lo, lc, rfl⟩ := (hs.front 1 rfl).own_shape
      have HI := Lib.hid hI
      have HR := Lib.hid hR
      have HS := Lib.hid hs
      clear hI hR hs HS3 HI0
      obtain ⟨b0, b1, b2, b3, bf⟩ := cells4 (HS.out.blk 0 rfl)
      by_cases hlt : j < N
      · have hi : (j : Int) < (N : Int) := by omega
        by_cases h60 : j < 60
        · have hi60 : (j : Int) < 60 := by omega
          obtain ⟨a, ha⟩ : ∃ a, xs[j]? = some a := ⟨xs[j]'(by rw [HN.out]; exact hlt), List.getElem?_eq_getElem _⟩
          obtain ⟨g, og, rfl, hcell⟩ := act_at (HAS.out.rd HS.out) ha HN.out
          obtain ⟨c0, c1, c2, c3, c4, c5, c6, c7, c8, c9, c10, c11, c12, c13, c14, c15, c16, c17⟩ := act_cells hcell
          have HOA := Lib.hid (HO.out a (List.mem_of_getElem? ha))
          clear hcell ha
          by_cases hr : (a.rn : Int) ≤ 100
          · go_upto_region 9 with fail
            refine wp_region_canon [(0, false, 6), (1, false, 6), (2, false, 6), (3, false, 6), (4, false, 6), (5, false, 6), (6, true, 0), (7, false, 10), (8, false, 10), (9, false, 999), (10, true, 0)] (by kernel_rfl) (by kernel_rfl) ?_
            iterate 6 (refine wpCan_read rfl rfl (fun K hK => ?_); go_simp; refine hK _ ?_; clear hK K)
            refine wpCan_eff rfl ?_
            refine wpList_do rfl (fun K hK => ?_)
            go_simp
            refine (done_ok (a := a) HT.out HOA.out HI.out (by omega) HR.out ((HS.out.drew.front 2 rfl).front 2 rfl)).mono ?_
            rintro e5 w5 ⟨A', L', lv', rfl, hI', hR', hc', hm', hs5⟩
            obtain ⟨o5, p5, rfl⟩ := hs5.own_shape
            have hs5 := hs5.front 2 rfl
            have HE := Lib.hid (Sat.set4 hs5 (.slice ta A.cols.length tc) (.int .i64 A.room) (.slice o5 L'.length p5) (.int .i64 A'.last))
            clear c0 c1 c2 c3 c4 c5 c6 c7 c8 c9 c10 c11 c12 c13 c14 c15 c16 c17 b0 b1 b2 b3 bf
            obtain ⟨b0, b1, b2, b3, bf⟩ := cells4 (hs5.blk 0 rfl)
            have HI' := Lib.hid hI'
            have HR' := Lib.hid hR'
            have HC' := Lib.hid hc'
            have HM' := Lib.hid hm'
            clear hI' hR' hc' hm' hs5 HS
            refine hK _ _ ?_
            clear hK K
            refine wpList_nil ?_
            refine And.intro ?_ ?_
            · go_simp
            iterate 3 (refine wpCan_read rfl rfl (fun K hK => ?_); go_simp; refine hK _ ?_; clear hK K)
            refine wpCan_eff rfl ?_
            refine wpList_plain rfl (fun K hK => ?_)
            go_simp
            refine hK _ _ ?_
            clear hK K
            refine wpList_nil ?_
            refine And.intro ?_ ?_
            · go_simp
            refine wpCan_nil ?_
            go_wp2_with fail
            go_roundw
            case rel => exact ⟨j + 1, A', L', .slice o5 L'.length p5, by go_num, by omega, by omega, HI'.out, HR'.out, HC'.out, HM'.out, by rw [HM'.out]; exact HE.out⟩
            case measure => simp [intOf]; omega
          · go_wp2_with fail
            go_roundw
            case rel => exact ⟨j + 1, A, L, _, by go_num, by omega, by omega, HI.out.more (Nat.le_succ j), HR.out, rfl, rfl, ((bareMore (Nat.le_succ j) (HS.out.front 2 rfl)).front 2 rfl).front 2 rfl⟩
            case measure => simp [intOf]; omega
        · have hi60 : ¬ ((j : Int) < 60) := by omega
          go_wp2_with fail
          go_ret
          exact .inr ⟨s, A, rfl, HI.out.more hj2, rfl, rfl, bareMore hj2 (HS.out.drop.drop)⟩
      · have hi : ¬ ((j : Int) < (N : Int)) := by omega
        go_wp2_with fail
        go_ret
        exact .inr ⟨s, A, rfl, HI.out.more hj2, rfl, rfl, bareMore hj2 (HS.out.drop.drop)⟩
end Go.Proofs.Ytcbklkcpjldcjaa
