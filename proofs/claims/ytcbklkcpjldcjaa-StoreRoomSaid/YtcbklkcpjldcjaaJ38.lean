/- The document's answer for the store (ratlineref06): with. -/
import Derived.Test.YtcbklkcpjldcjaaJ37
namespace Go.Proofs.Ytcbklkcpjldcjaa
open Go.ChangeShapes Go.WideShapes Go.ChangeAt Go.RowKit
set_option maxRecDepth 100000
set_option linter.unusedSimpArgs false

theorem infoPl : (Try.prog.info? tPl).map (fun i => (i.zero, i.size, i.bytes)) = some (some (.agg #[.int .i64 0, .bool false, .int .i64 0, .string ⟨#[]⟩, .slice none 0 0, .int .i64 0]), 6, 72) := by kernel_rfl
/-- how two places stand to one another -/
def plCmp (q p : Pl) : Int := if q.t = p.t then valCmp q.k p.k else q.t - p.t
/-- a round of with -/
def withS (p : Pl) (x : List Pl × Bool) (q : Pl) : List Pl × Bool :=
  (x.1 ++ (if 0 ≤ plCmp q p ∧ x.2 = false then [p] else []) ++ (if plCmp q p = 0 then [] else [q]), x.2 || decide (0 ≤ plCmp q p))
def withF (L : List Pl) (p : Pl) : List Pl × Bool := L.foldl (withS p) ([], false)
def withL (L : List Pl) (p : Pl) : List Pl := if (withF L p).2 then (withF L p).1 else (withF L p).1 ++ [p]
section
variable {L O : List Pl} {p q : Pl} {dn : Bool} {j : Nat}
theorem with_succ (h : withF (L.take j) p = (O, dn)) (hq : L[j]? = some q) : withF (L.take (j + 1)) p = withS p (O, dn) q := by
  unfold withF at *
  rw [List.take_add_one, hq, List.foldl_append, h]
  rfl
theorem withS_lt (h : plCmp q p < 0) : withS p (O, dn) q = (O ++ [q], dn) := by
  unfold withS
  have h1 : ¬ (0 ≤ plCmp q p) := by omega
  have h2 : ¬ (plCmp q p = 0) := by omega
  simp [h1, h2]
theorem withS_eq0 (h : plCmp q p = 0) : withS p (O, false) q = (O ++ [p], true) := by unfold withS; simp [h]
theorem withS_eq1 (h : plCmp q p = 0) : withS p (O, true) q = (O, true) := by unfold withS; simp [h]
theorem withS_gt0 (h : 0 < plCmp q p) : withS p (O, false) q = (O ++ [p] ++ [q], true) := by
  unfold withS
  have h1 : 0 ≤ plCmp q p := by omega
  have h2 : ¬ (plCmp q p = 0) := by omega
  simp [h1, h2]
theorem withS_gt1 (h : 0 < plCmp q p) : withS p (O, true) q = (O ++ [q], true) := by
  unfold withS
  have h1 : 0 ≤ plCmp q p := by omega
  have h2 : ¬ (plCmp q p = 0) := by omega
  simp [h1, h2]
theorem withF_len : ∀ {L : List Pl} {x : List Pl × Bool}, (L.foldl (withS p) x).1.length ≤ x.1.length + 2 * L.length
  | [], x => by simp
  | q :: L, x => by
    have := withF_len (L := L) (x := withS p x q)
    have h2 : (withS p x q).1.length ≤ x.1.length + 2 := by
      unfold withS
      dsimp only
      rw [List.length_append, List.length_append]
      have a : (if 0 ≤ plCmp q p ∧ x.2 = false then [p] else ([] : List Pl)).length ≤ 1 := by split <;> simp
      have b : (if plCmp q p = 0 then ([] : List Pl) else [q]).length ≤ 1 := by split <;> simp
      omega
    rw [List.foldl_cons, List.length_cons]
    omega
theorem withF_take_len (h : withF (L.take j) p = (O, dn)) : O.length ≤ 2 * j := by
  have := withF_len (p := p) (L := L.take j) (x := ([], false))
  unfold withF at h
  rw [h] at this
  rw [List.length_take] at this
  simp at this
  omega
end
abbrev Pl.v (p : Pl) : Value := .agg #[.int .i64 p.t, .bool p.k.t, .int .i64 p.k.n, .string p.k.s, .slice p.ro p.rn p.rc, .int .i64 p.num]
/-- a place in a block of its own, to be put behind a row -/
theorem plsnoc_src {B w : World} {D : PH} {l : List HP} {A : HP} (h : Sat B D w (A :: l)) (x : Pl) :
    (∀ n, Sat B D ((w.drewN n).alloc (.cells #[.int .i64 x.t, .bool x.k.t, .int .i64 x.k.n, .string x.k.s, .slice x.ro x.rn x.rc, .int .i64 x.num] tPl)) (A :: blk w.heap.size #[.int .i64 x.t, .bool x.k.t, .int .i64 x.k.n, .string x.k.s, .slice x.ro x.rn x.rc, .int .i64 x.num] tPl :: l)) ∧
    (∀ n, Rd ((w.drewN n).alloc (.cells #[.int .i64 x.t, .bool x.k.t, .int .i64 x.k.n, .string x.k.s, .slice x.ro x.rn x.rc, .int .i64 x.num] tPl)) 6 (.slice (some ⟨w.heap.size, 0, none⟩) 1 1) 1 x.cells) := by
  have h1 := fun n => (h.drewN n).alloc #[.int .i64 x.t, .bool x.k.t, .int .i64 x.k.n, .string x.k.s, .slice x.ro x.rn x.rc, .int .i64 x.num] tPl
  exact ⟨fun n => (h1 n).swap, fun n => rd_block (size := 6) (n := 1) (h1 n).heap_blk rfl (by unfold maxLen; omega)⟩
theorem pls_snoc {B w : World} {D : PH} {v : Value} {O : List Pl} {x : Pl} {l : List HP} {M : Nat} (hM : O.length = M) (h : Sat B D w (ownS tPl 6 v (M + 1) (O.flatMap Pl.cells ++ x.cells) :: l)) : Sat B D w (plsP v (O ++ [x]) :: l) := by
  unfold plsP
  rw [List.length_append, List.flatMap_append, List.flatMap_singleton, hM]
  exact h
theorem pls_snoc2 {B w : World} {D : PH} {v : Value} {O : List Pl} {x y : Pl} {l : List HP} {M : Nat} (hM : O.length = M) (h : Sat B D w (ownS tPl 6 v (M + 1 + 1) (O.flatMap Pl.cells ++ x.cells ++ y.cells) :: l)) : Sat B D w (plsP v (O ++ [x] ++ [y]) :: l) := by
  refine pls_snoc (M := M + 1) (by simp [hM]) ?_
  rw [List.flatMap_append, List.flatMap_singleton]
  exact h
theorem results_rf1 {fn : Func} {a : Tmp} (h : fn.results = #[.cell a tRf]) (tmps : Array Value) (w : World) {g : Nat} {x0 x1 x2 x3 : Value} (ha : tmps.getD a undef = .pointer (some ⟨g, 0, none⟩))
    (c0 : w.cell? ⟨g, 0, none⟩ = some x0) (c1 : w.cell? ⟨g, 1, none⟩ = some x1) (c2 : w.cell? ⟨g, 2, none⟩ = some x2) (c3 : w.cell? ⟨g, 3, none⟩ = some x3) :
    (results fn tmps).run Try.prog w = .ok (.agg #[x0, x1, x2, x3]) w := by
  have ha' : tmps[a]?.getD undef = .pointer (some ⟨g, 0, none⟩) := by simpa using ha
  simp [results, h, loadVar]
  rw [ha']
  go_simp
theorem results_rf2 {fn : Func} {a b : Tmp} (h : fn.results = #[.cell a tRf, .tmp b]) (tmps : Array Value) (w : World) {g : Nat} {x0 x1 x2 x3 : Value} (ha : tmps.getD a undef = .pointer (some ⟨g, 0, none⟩))
    (c0 : w.cell? ⟨g, 0, none⟩ = some x0) (c1 : w.cell? ⟨g, 1, none⟩ = some x1) (c2 : w.cell? ⟨g, 2, none⟩ = some x2) (c3 : w.cell? ⟨g, 3, none⟩ = some x3) :
    (results fn tmps).run Try.prog w = .ok (.tuple #[.agg #[x0, x1, x2, x3], tmps.getD b undef]) w := by
  have ha' : tmps[a]?.getD undef = .pointer (some ⟨g, 0, none⟩) := by simpa using ha
  simp [results, h, loadVar]
  rw [ha']
  go_simp
theorem results_rf3 {fn : Func} {a b c : Tmp} (h : fn.results = #[.cell a tRf, .tmp b, .tmp c]) (tmps : Array Value) (w : World) {g : Nat} {x0 x1 x2 x3 : Value} (ha : tmps.getD a undef = .pointer (some ⟨g, 0, none⟩))
    (c0 : w.cell? ⟨g, 0, none⟩ = some x0) (c1 : w.cell? ⟨g, 1, none⟩ = some x1) (c2 : w.cell? ⟨g, 2, none⟩ = some x2) (c3 : w.cell? ⟨g, 3, none⟩ = some x3) :
    (results fn tmps).run Try.prog w = .ok (.tuple #[.agg #[x0, x1, x2, x3], tmps.getD b undef, tmps.getD c undef]) w := by
  have ha' : tmps[a]?.getD undef = .pointer (some ⟨g, 0, none⟩) := by simpa using ha
  simp [results, h, loadVar]
  rw [ha']
  go_simp
/-- the three blocks of with -/
theorem with_start {B w : World} {D : PH} {l : List HP} (h : Sat B D w l) (c1 c2 c3 : Array Value) (t1 t2 t3 : TypeId) : ∃ wa, wa = ((w.alloc (.cells c1 t1)).alloc (.cells c2 t2)).alloc (.cells c3 t3) ∧ Sat B D wa (blk (w.heap.size + 1 + 1) c3 t3 :: blk (w.heap.size + 1) c2 t2 :: blk w.heap.size c1 t1 :: l) := by
  refine ⟨_, rfl, ?_⟩
  have h1 := ((h.alloc c1 t1).alloc c2 t2).alloc c3 t3
  rw [World.size_alloc, World.size_alloc] at h1
  exact h1
theorem with_end {B w : World} {D : PH} {br bs : Nat} {x0 x1 x2 x3 y0 y1 y2 y3 u : Value} {A P : HP} {l : List HP} (h : Sat B D w (A :: blk br #[y0, y1, y2, y3] tRf :: P :: blk bs #[x0, x1, x2, x3] tRf :: l)) :
    Sat B D (w.setCell ⟨bs, 2, none⟩ u) (blk bs #[x0, x1, u, x3] tRf :: blk br #[y0, y1, y2, y3] tRf :: A :: P :: l) ∧
    ∀ W, Sat B D W (blk bs #[x0, x1, u, x3] tRf :: blk br #[y0, y1, y2, y3] tRf :: A :: P :: l) → Sat B D ((((W.setCell ⟨br, 0, none⟩ x0).setCell ⟨br, 1, none⟩ x1).setCell ⟨br, 2, none⟩ u).setCell ⟨br, 3, none⟩ x3) (blk br #[x0, x1, u, x3] tRf :: blk bs #[x0, x1, u, x3] tRf :: A :: P :: l) := by
  refine ⟨?_, fun W h => h.swap.set4 x0 x1 u x3⟩
  have h1 : Sat B D w (blk bs #[x0, x1, x2, x3] tRf :: blk br #[y0, y1, y2, y3] tRf :: A :: P :: l) := by
    have := h.front 3 rfl
    exact this.perm ((List.Perm.swap _ _ _).cons _)
  exact h1.set 2 u

set_option maxHeartbeats 16000000 in
theorem with_ok {B w : World} {D : PH} {ta : Option Addr} {tn tc : Nat} {room last : Int} {lv : Value} {L : List Pl} {l : List HP} (p : Pl) (hpk : p.k.fits) (hfl : ∀ q ∈ L, q.k.fits) (hpt : 0 ≤ p.t ∧ p.t ≤ 100) (hlt : ∀ q ∈ L, 0 ≤ q.t ∧ q.t ≤ 100) (hL : L.length ≤ 1000) (h : Sat B D w (plsP lv L :: l)) :
    Calls Try.prog 60 #[refV (.slice ta tn tc) room lv last, p.v] w fun e w' => ∃ v', e = .returned (refV (.slice ta tn tc) room v' last) ∧ Sat B D w' (plsP v' (withL L p) :: l) := by
  obtain ⟨ao, cap, rfl⟩ := h.own_shape
  obtain ⟨i0, hi, hz0, hz1, hz2⟩ := info_parts infoPl
  have HI := Lib.hid (And.intro hi (And.intro hz0 (And.intro hz1 hz2)))
  obtain ⟨N, hN⟩ : ∃ N, L.length = N := ⟨_, rfl⟩
  have HN := Lib.hid hN
  have h' : Sat B D w (ownS tPl 6 (.slice ao N cap) N (L.flatMap Pl.cells) :: l) := by have := h; unfold plsP at this; rw [hN] at this; exact this
  obtain ⟨wa, hwa, hsa⟩ := with_start h' #[.slice ta tn tc, .int .i64 room, .slice ao N cap, .int .i64 last] #[.int .i64 p.t, .bool p.k.t, .int .i64 p.k.n, .string p.k.s, .slice p.ro p.rn p.rc, .int .i64 p.num] #[.slice none 0 0, .int .i64 0, .slice none 0 0, .int .i64 0] tRf tPl tRf
  have HS := Lib.hid (hsa.own_nil tPl 6)
  have HWA := Lib.hid hwa
  have HPK := Lib.hid hpk
  have HFL := Lib.hid hfl
  have HLT := Lib.hid hlt
  obtain ⟨ht0, ht1⟩ := hpt
  rw [hN] at hL ⊢
  clear h h' hwa hsa hN hi hz0 hz1 hz2 hpk hfl hlt
  go_enter Try.func60, Try.ntmps60
  go_upto_region 1 with (fail)
  rw [← HWA.out]
  clear HWA
  generalize w.heap.size + 1 + 1 = br at HS ⊢
  generalize w.heap.size + 1 = bp at HS ⊢
  generalize w.heap.size = bs at HS ⊢
  go_wp2_with fail
  go_loopw [5, 6, 7, 8] (fun out dn i _ wr => ∃ (j : Nat) (dn' : Bool) (O : List Pl), i = .int .i64 j ∧ dn = .bool dn' ∧ j ≤ N ∧ withF (L.take j) p = (O, dn') ∧ Sat B D wr (plsP out O :: blk br #[.slice none 0 0, .int .i64 0, .slice none 0 0, .int .i64 0] tRf :: blk bp #[.int .i64 p.t, .bool p.k.t, .int .i64 p.k.n, .string p.k.s, .slice p.ro p.rn p.rc, .int .i64 p.num] tPl :: blk bs #[.slice ta tn tc, .int .i64 room, .slice ao N cap, .int .i64 last] tRf :: ownS tPl 6 (.slice ao N cap) N (L.flatMap Pl.cells) :: l)) (fun _ _ i _ _ => N - (intOf i).toNat)
  case atStart => exact ⟨0, false, [], rfl, rfl, by omega, by simp [withF], HS.out⟩
  case round =>
    obtain ⟨j, dn, O, rfl, rfl, hj, hw, hs⟩ := hrel
    obtain ⟨o1, c1, rfl⟩ := hs.own_shape
    have hl1 := withF_take_len hw
    generalize hcl : O.length = M at hl1
    have HCL := Lib.hid hcl
    have HW := Lib.hid hw
    have HS1 := Lib.hid (show Sat B D wr (ownS tPl 6 (.slice o1 M c1) M (O.flatMap Pl.cells) :: _) by have := hs; unfold plsP at this; rw [hcl] at this; exact this)
    clear hs hcl hw HS
    by_cases hlt : j < N
    · obtain ⟨q, hq⟩ : ∃ q, L[j]? = some q := ⟨L[j]'(by rw [HN.out]; exact hlt), List.getElem?_eq_getElem _⟩
      obtain ⟨g, og, rfl⟩ := pl_src (HS1.out.own 4 rfl).rd hq HN.out
      have hi : (j : Int) < (N : Int) := by omega
      have HP := Lib.hid hq
      have HQF := Lib.hid (HFL.out q (List.mem_of_getElem? hq))
      obtain ⟨hq0, hq1⟩ := HLT.out q (List.mem_of_getElem? hq)
      obtain ⟨b0, b1, b2, b3, bf⟩ := cells4 (HS1.out.blk 3 rfl)
      obtain ⟨p0, p1, p2, p3, p4, p5, pf⟩ := cells6 (HS1.out.blk 2 rfl)
      obtain ⟨y0, y1, y2, y3, y4, y5⟩ := pl_cells (HS1.out.own 4 rfl).rd HP.out
      clear hq
      by_cases hqt : q.t = p.t
      · have hz : (q.t - p.t == 0) = true := by simp; omega
        have HQT := Lib.hid hqt
        clear hqt
        go_upto_region 8 with (fail)
        go_quiet (fail)
        go_upto_region 8 with (fail)
        refine wp_region_canon [(0, false, 8), (1, false, 8), (2, false, 8), (3, false, 8), (4, false, 8), (5, false, 8), (6, false, 8), (7, false, 8), (8, true, 0), (9, false, 999)] (by kernel_rfl) (by kernel_rfl) ?_
        iterate 8 (refine wpCan_read rfl rfl (fun K hK => ?_); go_simp; refine hK _ ?_; clear hK K)
        refine wpCan_eff rfl ?_
        refine wpList_do rfl (fun K hK => ?_)
        go_simp
        refine (rcmp_ok q.k p.k HQF.out HPK.out _).mono ?_
        rintro e3 w3 ⟨rfl, hk3⟩
        have HS3 := Lib.hid ((HS1.out.drewN _).kept hk3)
        clear hk3 b0 b1 b2 b3 bf p0 p1 p2 p3 p4 p5 pf y0 y1 y2 y3 y4 y5
        refine hK _ _ ?_
        clear hK K
        refine wpList_nil ?_
        refine And.intro ?_ ?_
        · go_simp
        iterate 1 (refine wpCan_read rfl rfl (fun K hK => ?_); go_simp; refine hK _ ?_; clear hK K)
        refine wpCan_nil ?_
        obtain ⟨b0, b1, b2, b3, bf⟩ := cells4 (HS3.out.blk 3 rfl)
        obtain ⟨p0, p1, p2, p3, p4, p5, pf⟩ := cells6 (HS3.out.blk 2 rfl)
        obtain ⟨y0, y1, y2, y3, y4, y5⟩ := pl_cells (HS3.out.own 4 rfl).rd HP.out
        have hc3 := cmp_three q.k p.k
        generalize hcc : valCmp q.k p.k = c at hc3 ⊢
        have HC := Lib.hid (show plCmp q p = c by unfold plCmp; rw [if_pos HQT.out]; exact hcc)
        clear hcc
        rcases hc3 with rfl | rfl | rfl
        · skip
          have HST := Lib.hid ((with_succ HW.out HP.out).trans (withS_lt (by have := HC.out; omega)))
          have HSN := Lib.hid (plsnoc_src HS3.out q)
          have HPO := Lib.hid (pl_one q)
          go_wp2_with (at_builtin; refine wpList_append_Sat _ rfl _ _ tPls rfl tPl i0 _ 6 72 Try.underlying54 HI.out.1 HI.out.2.1 HI.out.2.2.1 HI.out.2.2.2 rfl _ _ _ rfl (HSN.out.1 0) _ 1 _ rfl (HSN.out.2 0) HPO.out (by unfold maxLen; omega) (by omega) ?_; intro v2 w2 h2 h2o; have H2 := Lib.hid (h2.swap.drop); clear h2 h2o b0 b1 b2 b3 bf p0 p1 p2 p3 p4 p5 pf y0 y1 y2 y3 y4 y5)
          go_roundw
          case rel => exact ⟨j + 1, dn, O ++ [q], by go_num, rfl, by omega, HST.out, pls_snoc HCL.out H2.out⟩
          case measure => simp [intOf]; omega
        · cases dn
          · skip
            have HST := Lib.hid ((with_succ HW.out HP.out).trans (withS_eq0 (by have := HC.out; omega)))
            have HSN := Lib.hid (plsnoc_src HS3.out p)
            have HPO := Lib.hid (pl_one p)
            go_wp2_with (at_builtin; refine wpList_append_Sat _ rfl _ _ tPls rfl tPl i0 _ 6 72 Try.underlying54 HI.out.1 HI.out.2.1 HI.out.2.2.1 HI.out.2.2.2 rfl _ _ _ rfl (HSN.out.1 0) _ 1 _ rfl (HSN.out.2 0) HPO.out (by unfold maxLen; omega) (by omega) ?_; intro v2 w2 h2 h2o; have H2 := Lib.hid (h2.swap.drop); clear h2 h2o b0 b1 b2 b3 bf p0 p1 p2 p3 p4 p5 pf y0 y1 y2 y3 y4 y5)
            go_roundw
            case rel => exact ⟨j + 1, true, O ++ [p], by go_num, rfl, by omega, HST.out, pls_snoc HCL.out H2.out⟩
            case measure => simp [intOf]; omega
          · skip
            have HST := Lib.hid ((with_succ HW.out HP.out).trans (withS_eq1 (by have := HC.out; omega)))
            go_wp2_with fail
            go_roundw
            case rel => exact ⟨j + 1, true, O, by go_num, rfl, by omega, HST.out, (show Sat B D _ (plsP _ O :: _) by unfold plsP; rw [HCL.out]; exact HS3.out)⟩
            case measure => simp [intOf]; omega
        · cases dn
          · skip
            have HST := Lib.hid ((with_succ HW.out HP.out).trans (withS_gt0 (by have := HC.out; omega)))
            have HSN := Lib.hid (plsnoc_src HS3.out p)
            have HPO := Lib.hid (pl_one p)
            go_upto_region 13 with (at_builtin; refine wpList_append_Sat _ rfl _ _ tPls rfl tPl i0 _ 6 72 Try.underlying54 HI.out.1 HI.out.2.1 HI.out.2.2.1 HI.out.2.2.2 rfl _ _ _ rfl (HSN.out.1 0) _ 1 _ rfl (HSN.out.2 0) HPO.out (by unfold maxLen; omega) (by omega) ?_; intro v2 w2 h2 h2o; have H2 := Lib.hid (h2.swap.drop); clear h2 h2o b0 b1 b2 b3 bf p0 p1 p2 p3 p4 p5 pf y0 y1 y2 y3 y4 y5)
            obtain ⟨o2, c2, rfl⟩ := H2.out.own_shape
            obtain ⟨b0, b1, b2, b3, bf⟩ := cells4 (H2.out.blk 3 rfl)
            obtain ⟨p0, p1, p2, p3, p4, p5, pf⟩ := cells6 (H2.out.blk 2 rfl)
            obtain ⟨y0, y1, y2, y3, y4, y5⟩ := pl_cells (H2.out.own 4 rfl).rd HP.out
            have HSN2 := Lib.hid (plsnoc_src H2.out q)
            have HPO2 := Lib.hid (pl_one q)
            go_wp2_with (at_builtin; refine wpList_append_Sat _ rfl _ _ tPls rfl tPl i0 _ 6 72 Try.underlying54 HI.out.1 HI.out.2.1 HI.out.2.2.1 HI.out.2.2.2 rfl _ _ _ rfl (HSN2.out.1 0) _ 1 _ rfl (HSN2.out.2 0) HPO2.out (by unfold maxLen; omega) (by omega) ?_; intro v4 w4 h2 h2o; have H4 := Lib.hid (h2.swap.drop); clear h2 h2o b0 b1 b2 b3 bf p0 p1 p2 p3 p4 p5 pf y0 y1 y2 y3 y4 y5)
            go_roundw
            case rel => exact ⟨j + 1, true, O ++ [p] ++ [q], by go_num, rfl, by omega, HST.out, pls_snoc2 HCL.out H4.out⟩
            case measure => simp [intOf]; omega
          · skip
            have HST := Lib.hid ((with_succ HW.out HP.out).trans (withS_gt1 (by have := HC.out; omega)))
            have HSN := Lib.hid (plsnoc_src HS3.out q)
            have HPO := Lib.hid (pl_one q)
            go_wp2_with (at_builtin; refine wpList_append_Sat _ rfl _ _ tPls rfl tPl i0 _ 6 72 Try.underlying54 HI.out.1 HI.out.2.1 HI.out.2.2.1 HI.out.2.2.2 rfl _ _ _ rfl (HSN.out.1 0) _ 1 _ rfl (HSN.out.2 0) HPO.out (by unfold maxLen; omega) (by omega) ?_; intro v2 w2 h2 h2o; have H2 := Lib.hid (h2.swap.drop); clear h2 h2o b0 b1 b2 b3 bf p0 p1 p2 p3 p4 p5 pf y0 y1 y2 y3 y4 y5)
            go_roundw
            case rel => exact ⟨j + 1, true, O ++ [q], by go_num, rfl, by omega, HST.out, pls_snoc HCL.out H2.out⟩
            case measure => simp [intOf]; omega
      · have hz : (q.t - p.t == 0) = false := by simp; omega
        have HC := Lib.hid (show plCmp q p = q.t - p.t by unfold plCmp; rw [if_neg hqt])
        by_cases hd : q.t - p.t < 0
        · have hge : ¬ (0 ≤ q.t - p.t) := by omega
          clear hqt
          go_upto_region 7 with (fail)
          go_quiet (fail)
          have HST := Lib.hid ((with_succ HW.out HP.out).trans (withS_lt (by have := HC.out; omega)))
          have HSN := Lib.hid (plsnoc_src HS1.out q)
          have HPO := Lib.hid (pl_one q)
          go_wp2_with (at_builtin; refine wpList_append_Sat _ rfl _ _ tPls rfl tPl i0 _ 6 72 Try.underlying54 HI.out.1 HI.out.2.1 HI.out.2.2.1 HI.out.2.2.2 rfl _ _ _ rfl (HSN.out.1 _) _ 1 _ rfl (HSN.out.2 _) HPO.out (by unfold maxLen; omega) (by omega) ?_; intro v2 w2 h2 h2o; have H2 := Lib.hid (h2.swap.drop); clear h2 h2o b0 b1 b2 b3 bf p0 p1 p2 p3 p4 p5 pf y0 y1 y2 y3 y4 y5)
          go_roundw
          case rel => exact ⟨j + 1, dn, O ++ [q], by go_num, rfl, by omega, HST.out, pls_snoc HCL.out H2.out⟩
          case measure => simp [intOf]; omega
        · have hge : 0 ≤ q.t - p.t := by omega
          have hgt : 0 < q.t - p.t := by omega
          clear hqt
          cases dn
          · go_upto_region 7 with (fail)
            go_quiet (fail)
            have HST := Lib.hid ((with_succ HW.out HP.out).trans (withS_gt0 (by have := HC.out; omega)))
            have HSN := Lib.hid (plsnoc_src HS1.out p)
            have HPO := Lib.hid (pl_one p)
            go_upto_region 13 with (at_builtin; refine wpList_append_Sat _ rfl _ _ tPls rfl tPl i0 _ 6 72 Try.underlying54 HI.out.1 HI.out.2.1 HI.out.2.2.1 HI.out.2.2.2 rfl _ _ _ rfl (HSN.out.1 _) _ 1 _ rfl (HSN.out.2 _) HPO.out (by unfold maxLen; omega) (by omega) ?_; intro v2 w2 h2 h2o; have H2 := Lib.hid (h2.swap.drop); clear h2 h2o b0 b1 b2 b3 bf p0 p1 p2 p3 p4 p5 pf y0 y1 y2 y3 y4 y5)
            obtain ⟨o2, c2, rfl⟩ := H2.out.own_shape
            obtain ⟨b0, b1, b2, b3, bf⟩ := cells4 (H2.out.blk 3 rfl)
            obtain ⟨p0, p1, p2, p3, p4, p5, pf⟩ := cells6 (H2.out.blk 2 rfl)
            obtain ⟨y0, y1, y2, y3, y4, y5⟩ := pl_cells (H2.out.own 4 rfl).rd HP.out
            have HSN2 := Lib.hid (plsnoc_src H2.out q)
            have HPO2 := Lib.hid (pl_one q)
            go_wp2_with (at_builtin; refine wpList_append_Sat _ rfl _ _ tPls rfl tPl i0 _ 6 72 Try.underlying54 HI.out.1 HI.out.2.1 HI.out.2.2.1 HI.out.2.2.2 rfl _ _ _ rfl (HSN2.out.1 0) _ 1 _ rfl (HSN2.out.2 0) HPO2.out (by unfold maxLen; omega) (by omega) ?_; intro v4 w4 h2 h2o; have H4 := Lib.hid (h2.swap.drop); clear h2 h2o b0 b1 b2 b3 bf p0 p1 p2 p3 p4 p5 pf y0 y1 y2 y3 y4 y5)
            go_roundw
            case rel => exact ⟨j + 1, true, O ++ [p] ++ [q], by go_num, rfl, by omega, HST.out, pls_snoc2 HCL.out H4.out⟩
            case measure => simp [intOf]; omega
          · go_upto_region 7 with (fail)
            go_quiet (fail)
            have HST := Lib.hid ((with_succ HW.out HP.out).trans (withS_gt1 (by have := HC.out; omega)))
            have HSN := Lib.hid (plsnoc_src HS1.out q)
            have HPO := Lib.hid (pl_one q)
            go_wp2_with (at_builtin; refine wpList_append_Sat _ rfl _ _ tPls rfl tPl i0 _ 6 72 Try.underlying54 HI.out.1 HI.out.2.1 HI.out.2.2.1 HI.out.2.2.2 rfl _ _ _ rfl (HSN.out.1 _) _ 1 _ rfl (HSN.out.2 _) HPO.out (by unfold maxLen; omega) (by omega) ?_; intro v2 w2 h2 h2o; have H2 := Lib.hid (h2.swap.drop); clear h2 h2o b0 b1 b2 b3 bf p0 p1 p2 p3 p4 p5 pf y0 y1 y2 y3 y4 y5)
            go_roundw
            case rel => exact ⟨j + 1, true, O ++ [q], by go_num, rfl, by omega, HST.out, pls_snoc HCL.out H2.out⟩
            case measure => simp [intOf]; omega
    · have hjN : j = N := by omega
      have h0 : ¬ (j : Int) < (N : Int) := by omega
      have HFIN := Lib.hid (show withF L p = (O, dn) by have := HW.out; rwa [List.take_of_length_le (by rw [HN.out]; omega)] at this)
      obtain ⟨b0, b1, b2, b3, bf⟩ := cells4 (HS1.out.blk 3 rfl)
      obtain ⟨p0, p1, p2, p3, p4, p5, pf⟩ := cells6 (HS1.out.blk 2 rfl)
      cases dn
      · have HWL := Lib.hid (show withL L p = O ++ [p] by unfold withL; rw [HFIN.out]; rfl)
        have HSN := Lib.hid (plsnoc_src HS1.out p)
        have HPO := Lib.hid (pl_one p)
        go_upto_region 16 with (at_builtin; refine wpList_append_Sat _ rfl _ _ tPls rfl tPl i0 _ 6 72 Try.underlying54 HI.out.1 HI.out.2.1 HI.out.2.2.1 HI.out.2.2.2 rfl _ _ _ rfl (HSN.out.1 0) _ 1 _ rfl (HSN.out.2 0) HPO.out (by unfold maxLen; omega) (by omega) ?_; intro v2 w2 h2 h2o; have H2 := Lib.hid (h2.swap.drop); clear h2 h2o b0 b1 b2 b3 bf p0 p1 p2 p3 p4 p5 pf)
        obtain ⟨o2, c2, rfl⟩ := H2.out.own_shape
        have HS2 := Lib.hid (show Sat B D w2 (plsP (.slice o2 (M + 1) c2) (O ++ [p]) :: _) from pls_snoc HCL.out H2.out)
        clear H2
        have HEND := Lib.hid (with_end (u := .slice o2 (M + 1) c2) HS2.out)
        obtain ⟨b0, b1, b2, b3, bf⟩ := cells4 (HS2.out.blk 3 rfl)
        go_upto_region 17 with (fail)
        have HS5 := Lib.hid HEND.out.1
        have HEN := Lib.hid HEND.out.2
        clear HEND b0 b1 b2 b3 bf
        revert HS5
        generalize World.setCell _ ⟨bs, 2, none⟩ _ = W5
        intro HS5
        have HE := Lib.hid (HEN.out _ HS5.out)
        obtain ⟨b0, b1, b2, b3, bf⟩ := cells4 (HS5.out.blk 0 rfl)
        obtain ⟨z0, z1, z2, z3, zf⟩ := cells4 (HS5.out.blk 1 rfl)
        go_wp2_with fail
        obtain ⟨e0, e1, e2, e3, _⟩ := cells4 (HE.out.blk 0 rfl)
        try simp only [Exit.inBlock, Exit.then]
        refine bodyPost_ret (results_rf1 rfl _ _ rfl e0 e1 e2 e3) rfl ?_
        refine ⟨_, rfl, ?_⟩
        rw [HWL.out]
        exact HE.out.drop.drop.swap.drop.swap.drop
      · have HWL := Lib.hid (show withL L p = O by unfold withL; rw [HFIN.out]; rfl)
        have HS2 := Lib.hid (show Sat B D wr (plsP (.slice o1 M c1) O :: _) by unfold plsP; rw [HCL.out]; exact HS1.out)
        go_upto_region 16 with (fail)
        clear b0 b1 b2 b3 bf p0 p1 p2 p3 p4 p5 pf
        have HEND := Lib.hid (with_end (u := .slice o1 M c1) HS2.out)
        obtain ⟨b0, b1, b2, b3, bf⟩ := cells4 (HS2.out.blk 3 rfl)
        go_upto_region 17 with (fail)
        have HS5 := Lib.hid HEND.out.1
        have HEN := Lib.hid HEND.out.2
        clear HEND b0 b1 b2 b3 bf
        revert HS5
        generalize World.setCell _ ⟨bs, 2, none⟩ _ = W5
        intro HS5
        have HE := Lib.hid (HEN.out _ HS5.out)
        obtain ⟨b0, b1, b2, b3, bf⟩ := cells4 (HS5.out.blk 0 rfl)
        obtain ⟨z0, z1, z2, z3, zf⟩ := cells4 (HS5.out.blk 1 rfl)
        go_wp2_with fail
        obtain ⟨e0, e1, e2, e3, _⟩ := cells4 (HE.out.blk 0 rfl)
        try simp only [Exit.inBlock, Exit.then]
        refine bodyPost_ret (results_rf1 rfl _ _ rfl e0 e1 e2 e3) rfl ?_
        refine ⟨_, rfl, ?_⟩
        rw [HWL.out]
        exact HE.out.drop.drop.swap.drop.swap.drop
end Go.Proofs.Ytcbklkcpjldcjaa
