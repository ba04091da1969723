/- An act, done to the store and to the document's places. (printed by genst24.py) -/
import Derived.Test.YtcbklkcpjldcjaaJ42
namespace Go.Proofs.Ytcbklkcpjldcjaa
open Go.ChangeShapes Go.WideShapes Go.ChangeAt Go.RowKit
set_option maxRecDepth 100000
set_option linter.unusedSimpArgs false

abbrev tAct : TypeId := 48
structure ActS where
  kind : Int
  t : Int
  k : Val
  row : List Val
  ro : Option Addr
  rn : Nat
  rc : Nat
  num : Int
  sp : Spn
def ActS.cells (a : ActS) : List Value := [.int .i64 a.kind, .int .i64 a.t, .bool a.k.t, .int .i64 a.k.n, .string a.k.s, .slice a.ro a.rn a.rc, .int .i64 a.num, .bool a.sp.no, .bool a.sp.hasLo, .bool a.sp.openLo, .bool a.sp.lo.t, .int .i64 a.sp.lo.n, .string a.sp.lo.s, .bool a.sp.hasHi, .bool a.sp.openHi, .bool a.sp.hi.t, .int .i64 a.sp.hi.n, .string a.sp.hi.s]
abbrev ActS.v (a : ActS) : Value := .agg #[.int .i64 a.kind, .int .i64 a.t, .bool a.k.t, .int .i64 a.k.n, .string a.k.s, .slice a.ro a.rn a.rc, .int .i64 a.num, .bool a.sp.no, .bool a.sp.hasLo, .bool a.sp.openLo, .bool a.sp.lo.t, .int .i64 a.sp.lo.n, .string a.sp.lo.s, .bool a.sp.hasHi, .bool a.sp.openHi, .bool a.sp.hi.t, .int .i64 a.sp.hi.n, .string a.sp.hi.s]
theorem ActS.len (a : ActS) : a.cells.length = 18 := rfl
/-- what is known of an act that was told -/
structure ActOk (D : PH) (a : ActS) : Prop where
  row : RowD D (.slice a.ro a.rn a.rc) a.row
  rowf : ∀ v ∈ a.row, v.fits
  key : a.k.fits
  sp : a.sp.fits
theorem ActS.at {w : World} {b : Nat} {a : ActS} {t : TypeId} {fr : Nat × Nat} (h : w.heap[b]? = some (.cells a.cells.toArray t fr)) :
    w.cell? ⟨b, 0, none⟩ = some (.int .i64 a.kind) ∧ w.cell? ⟨b, 1, none⟩ = some (.int .i64 a.t) ∧ w.cell? ⟨b, 2, none⟩ = some (.bool a.k.t) ∧ w.cell? ⟨b, 3, none⟩ = some (.int .i64 a.k.n) ∧ w.cell? ⟨b, 4, none⟩ = some (.string a.k.s) ∧ w.cell? ⟨b, 5, none⟩ = some (.slice a.ro a.rn a.rc) ∧ w.cell? ⟨b, 6, none⟩ = some (.int .i64 a.num) := by
  refine ⟨?_, ?_, ?_, ?_, ?_, ?_, ?_⟩ <;> simp [World.cell?, h, ActS.cells]
theorem ActS.spAt {w : World} {b : Nat} {a : ActS} {t : TypeId} {fr : Nat × Nat} (h : w.heap[b]? = some (.cells a.cells.toArray t fr)) :
    w.cell? ⟨b, 7, none⟩ = some (.bool a.sp.no) ∧ w.cell? ⟨b, 8, none⟩ = some (.bool a.sp.hasLo) ∧ w.cell? ⟨b, 9, none⟩ = some (.bool a.sp.openLo) ∧ w.cell? ⟨b, 10, none⟩ = some (.bool a.sp.lo.t) ∧ w.cell? ⟨b, 11, none⟩ = some (.int .i64 a.sp.lo.n) ∧ w.cell? ⟨b, 12, none⟩ = some (.string a.sp.lo.s) ∧
    w.cell? ⟨b, 13, none⟩ = some (.bool a.sp.hasHi) ∧ w.cell? ⟨b, 14, none⟩ = some (.bool a.sp.openHi) ∧ w.cell? ⟨b, 15, none⟩ = some (.bool a.sp.hi.t) ∧ w.cell? ⟨b, 16, none⟩ = some (.int .i64 a.sp.hi.n) ∧ w.cell? ⟨b, 17, none⟩ = some (.string a.sp.hi.s) := by
  refine ⟨?_, ?_, ?_, ?_, ?_, ?_, ?_, ?_, ?_, ?_, ?_⟩ <;> simp [World.cell?, h, ActS.cells]

/-- behind an act, done to both -/
def DoneQ (B : World) (D : PH) (s n : Nat) (tv : Value) (A : StM) (l : List HP) (e : Ending) (w' : World) : Prop :=
  ∃ (A' : StM) (L' : List Pl) (lv' : Value), e = .returned (.tuple #[refV tv A.room lv' A'.last, .bool true]) ∧ StI (n + 1) A' ∧ RefI D L' A' ∧ A'.cols = A.cols ∧ A'.room = A.room ∧ Sat B D w' (plsP lv' L' :: storeB s (n + 1) A' :: l)
theorem last_ok {n : Nat} {A : StM} (h : StI n A) (hn : n ≤ 400) : 0 ≤ A.last ∧ A.last ≤ 100000 := ⟨h.last.1, by have := h.last.2; omega⟩
theorem may_cols {n : Nat} {A : StM} (h : StI n A) : A.cols.length ≤ 100 := by have := h.good.some_.2; omega

set_option maxHeartbeats 8000000 in
theorem doneIns_ok {B w : World} {D : PH} {s n : Nat} {tv lv : Value} {A : StM} {L : List Pl} {l : List HP} {a : ActS} (hT : TabsD D tv A.cols) (ha : ActOk D a) (hI : StI n A) (hn : n ≤ 300) (hR : RefI D L A) (hq : bits .and .i64 a.kind 7 = 0 ∨ bits .and .i64 a.kind 7 = 1) (h : Sat B D w (plsP lv L :: storeB s n A :: l)) :
    Calls Try.prog 22 #[.pointer (some ⟨s, 0, none⟩), refV tv A.room lv A.last, a.v] w (DoneQ B D s n tv A l) := by
  obtain ⟨la, lc, rfl⟩ := h.own_shape
  obtain ⟨ta, tc, rfl⟩ := hT.shape
  obtain ⟨ar, arf, ak, asp⟩ := ha
  obtain ⟨wa, hwa, hsa⟩ := with_start h #[.slice ta A.cols.length tc, .int .i64 A.room, .slice la L.length lc, .int .i64 A.last] a.cells.toArray #[.slice none 0 0, .int .i64 0, .slice none 0 0, .int .i64 0] tRf tAct tRf
  dsimp only [ActS.cells, List.toArray] at hwa
  have HWA := Lib.hid hwa
  have HS := Lib.hid (hsa.front 4 rfl)
  have HT := Lib.hid hT
  have HAR := Lib.hid ar
  have HARF := Lib.hid arf
  have HAK := Lib.hid ak
  have HSP := Lib.hid asp
  have HI := Lib.hid hI
  have HR := Lib.hid hR
  clear h hwa hsa hT hI hR ar arf ak asp
  dsimp only [ActS.v]
  rcases hq with hq | hq
  all_goals

    go_enter Try.func22, Try.ntmps22
    go_upto_region 1 with (fail)
    rw [← HWA.out]
    clear HWA
    generalize w.heap.size + 1 + 1 = br at HS ⊢
    generalize w.heap.size + 1 = ba at HS ⊢
    generalize w.heap.size = bw at HS ⊢
    obtain ⟨a0, a1, a2, a3, a4, a5, a6⟩ := ActS.at (HS.out.blk 2 rfl)
    obtain ⟨b0, b1, b2, b3, bf⟩ := cells4 (HS.out.blk 3 rfl)
    go_upto_region 4 with (fail)
    generalize bits .and .i64 a.kind 7 = q at hq ⊢
    subst hq
    go_upto_region 5 with (go_at_call 11; refine (Insert_ok a.t HI.out (by omega) (fun W X h => HAR.out.rd h) HS.out).mono ?_; rintro e1 w1 ⟨rfl, hs1⟩; have hs1 := hs1.front 4 rfl; have HS1 := Lib.hid hs1; clear hs1 HS a0 a1 a2 a3 a4 a5 a6 b0 b1 b2 b3 bf)
    obtain ⟨a0, a1, a2, a3, a4, a5, a6⟩ := ActS.at (HS1.out.blk 3 rfl)
    obtain ⟨b0, b1, b2, b3, bf⟩ := cells4 (HS1.out.blk 4 rfl)
    obtain ⟨i1, i2, i3, i4⟩ := ins_ref HR.out HI.out a.t HAR.out HARF.out
    have HI2 := Lib.hid (HI.out.ins a.t a.row)
    have HR2 := Lib.hid i2
    have HC2 := Lib.hid i3
    have HM2 := Lib.hid i4
    have HL2 := Lib.hid i1
    clear i2 i3 i4 i1
    go_upto_region 6 with (go_at_call 40; refine (rIns_ok a.t HT.out HAR.out HARF.out (HR.out.lok HI.out) (may_cols HI.out) (last_ok HI.out (by omega)) HS1.out).mono ?_; rw [HL2.out]; rintro e2 w2 ⟨v2, rfl, hs2⟩; obtain ⟨o2, c2, rfl⟩ := hs2.own_shape; have hs3 := hs2.alloc #[.slice ta A.cols.length tc, .int .i64 A.room, .slice o2 (rIns A.cols A.room L A.last a.t a.row a.ro a.rn a.rc).1.length c2, .int .i64 (A.ins a.t a.row).1.last] tRf; have HS3 := Lib.hid hs3; clear hs2 hs3 HS1 a0 a1 a2 a3 a4 a5 a6 b0 b1 b2 b3 bf)
    obtain ⟨W3, hW3, hs3⟩ := Sat.hide HS3.out
    rw [← hW3]
    clear hW3 HS3
    have HS3 := Lib.hid hs3
    clear hs3
    generalize w2.heap.size = bn at HS3 ⊢
    obtain ⟨b0, b1, b2, b3, bf⟩ := cells4 (HS3.out.blk 0 rfl)
    obtain ⟨z0, z1, z2, z3, zf⟩ := cells4 (HS3.out.blk 3 rfl)
    have HE := Lib.hid (Sat.set4 (HS3.out.front 3 rfl) (.slice ta A.cols.length tc) (.int .i64 A.room) (.slice o2 (rIns A.cols A.room L A.last a.t a.row a.ro a.rn a.rc).1.length c2) (.int .i64 (A.ins a.t a.row).1.last))
    go_wp2_with fail
    obtain ⟨e0, e1, e2, e3, _⟩ := cells4 (HE.out.blk 0 rfl)
    try simp only [Exit.inBlock, Exit.then]
    refine bodyPost_ret (results_rf2 rfl _ _ rfl e0 e1 e2 e3) rfl ?_
    refine ⟨(A.ins a.t a.row).1, (rIns A.cols A.room L A.last a.t a.row a.ro a.rn a.rc).1, .slice o2 (rIns A.cols A.room L A.last a.t a.row a.ro a.rn a.rc).1.length c2, by simp, HI2.out, HR2.out, HC2.out, HM2.out, ?_⟩
    exact ((HE.out.drop.drop.front 2 rfl).drop.front 2 rfl).drop

set_option maxHeartbeats 8000000 in
theorem doneRep_ok {B w : World} {D : PH} {s n : Nat} {tv lv : Value} {A : StM} {L : List Pl} {l : List HP} {a : ActS} (hT : TabsD D tv A.cols) (ha : ActOk D a) (hI : StI n A) (hn : n ≤ 300) (hR : RefI D L A) (hq : bits .and .i64 a.kind 7 = 2) (h : Sat B D w (plsP lv L :: storeB s n A :: l)) :
    Calls Try.prog 22 #[.pointer (some ⟨s, 0, none⟩), refV tv A.room lv A.last, a.v] w (DoneQ B D s n tv A l) := by
  obtain ⟨la, lc, rfl⟩ := h.own_shape
  obtain ⟨ta, tc, rfl⟩ := hT.shape
  obtain ⟨ar, arf, ak, asp⟩ := ha
  obtain ⟨wa, hwa, hsa⟩ := with_start h #[.slice ta A.cols.length tc, .int .i64 A.room, .slice la L.length lc, .int .i64 A.last] a.cells.toArray #[.slice none 0 0, .int .i64 0, .slice none 0 0, .int .i64 0] tRf tAct tRf
  dsimp only [ActS.cells, List.toArray] at hwa
  have HWA := Lib.hid hwa
  have HS := Lib.hid (hsa.front 4 rfl)
  have HT := Lib.hid hT
  have HAR := Lib.hid ar
  have HARF := Lib.hid arf
  have HAK := Lib.hid ak
  have HSP := Lib.hid asp
  have HI := Lib.hid hI
  have HR := Lib.hid hR
  clear h hwa hsa hT hI hR ar arf ak asp
  dsimp only [ActS.v]

  go_enter Try.func22, Try.ntmps22
  go_upto_region 1 with (fail)
  rw [← HWA.out]
  clear HWA
  generalize w.heap.size + 1 + 1 = br at HS ⊢
  generalize w.heap.size + 1 = ba at HS ⊢
  generalize w.heap.size = bw at HS ⊢
  obtain ⟨a0, a1, a2, a3, a4, a5, a6⟩ := ActS.at (HS.out.blk 2 rfl)
  obtain ⟨b0, b1, b2, b3, bf⟩ := cells4 (HS.out.blk 3 rfl)
  go_upto_region 8 with (fail)
  generalize bits .and .i64 a.kind 7 = q at hq ⊢
  subst hq
  go_upto_region 9 with (go_at_call 26; refine (Replace_ok a.t HI.out (by omega) (fun W X h => HAR.out.rd h) HS.out).mono ?_; rintro e1 w1 ⟨rfl, hs1⟩; have hs1 := hs1.front 4 rfl; have HS1 := Lib.hid hs1; clear hs1 HS a0 a1 a2 a3 a4 a5 a6 b0 b1 b2 b3 bf)
  obtain ⟨a0, a1, a2, a3, a4, a5, a6⟩ := ActS.at (HS1.out.blk 3 rfl)
  obtain ⟨b0, b1, b2, b3, bf⟩ := cells4 (HS1.out.blk 4 rfl)
  obtain ⟨i1, i2, i3, i4, i5⟩ := rep_ref HR.out HI.out a.t HAR.out HARF.out
  have HI2 := Lib.hid (HI.out.rep a.t a.row)
  have HR2 := Lib.hid i2
  have HC2 := Lib.hid i3
  have HM2 := Lib.hid i4
  have HL2 := Lib.hid (And.intro i1 i5)
  clear i2 i3 i4 i1 i5
  go_upto_region 10 with (go_at_call 41; refine (rRep_ok a.t HT.out HAR.out HARF.out (HR.out.lok HI.out) (may_cols HI.out) HS1.out).mono ?_; rw [HL2.out.1]; rintro e2 w2 ⟨v2, rfl, hs2⟩; obtain ⟨o2, c2, rfl⟩ := hs2.own_shape; have hs3 := hs2.alloc #[.slice ta A.cols.length tc, .int .i64 A.room, .slice o2 (rRep A.cols L a.t a.row a.ro a.rn a.rc).1.length c2, .int .i64 A.last] tRf; have HS3 := Lib.hid hs3; clear hs2 hs3 HS1 a0 a1 a2 a3 a4 a5 a6 b0 b1 b2 b3 bf)
  obtain ⟨W3, hW3, hs3⟩ := Sat.hide HS3.out
  rw [← hW3]
  clear hW3 HS3
  have HS3 := Lib.hid hs3
  clear hs3
  generalize w2.heap.size = bn at HS3 ⊢
  obtain ⟨b0, b1, b2, b3, bf⟩ := cells4 (HS3.out.blk 0 rfl)
  obtain ⟨z0, z1, z2, z3, zf⟩ := cells4 (HS3.out.blk 3 rfl)
  have HE := Lib.hid (Sat.set4 (HS3.out.front 3 rfl) (.slice ta A.cols.length tc) (.int .i64 A.room) (.slice o2 (rRep A.cols L a.t a.row a.ro a.rn a.rc).1.length c2) (.int .i64 A.last))
  go_wp2_with fail
  obtain ⟨e0, e1, e2, e3, _⟩ := cells4 (HE.out.blk 0 rfl)
  try simp only [Exit.inBlock, Exit.then]
  refine bodyPost_ret (results_rf2 rfl _ _ rfl e0 e1 e2 e3) rfl ?_
  refine ⟨(A.rep a.t a.row).1, (rRep A.cols L a.t a.row a.ro a.rn a.rc).1, .slice o2 (rRep A.cols L a.t a.row a.ro a.rn a.rc).1.length c2, by rw [HL2.out.2]; simp, HI2.out, HR2.out, HC2.out, HM2.out, ?_⟩
  exact ((HE.out.drop.drop.front 2 rfl).drop.front 2 rfl).drop

set_option maxHeartbeats 8000000 in
theorem doneRmv_ok {B w : World} {D : PH} {s n : Nat} {tv lv : Value} {A : StM} {L : List Pl} {l : List HP} {a : ActS} (hT : TabsD D tv A.cols) (ha : ActOk D a) (hI : StI n A) (hn : n ≤ 300) (hR : RefI D L A) (hq : bits .and .i64 a.kind 7 = 3) (h : Sat B D w (plsP lv L :: storeB s n A :: l)) :
    Calls Try.prog 22 #[.pointer (some ⟨s, 0, none⟩), refV tv A.room lv A.last, a.v] w (DoneQ B D s n tv A l) := by
  obtain ⟨la, lc, rfl⟩ := h.own_shape
  obtain ⟨ta, tc, rfl⟩ := hT.shape
  obtain ⟨ar, arf, ak, asp⟩ := ha
  obtain ⟨wa, hwa, hsa⟩ := with_start h #[.slice ta A.cols.length tc, .int .i64 A.room, .slice la L.length lc, .int .i64 A.last] a.cells.toArray #[.slice none 0 0, .int .i64 0, .slice none 0 0, .int .i64 0] tRf tAct tRf
  dsimp only [ActS.cells, List.toArray] at hwa
  have HWA := Lib.hid hwa
  have HS := Lib.hid (hsa.front 4 rfl)
  have HT := Lib.hid hT
  have HAR := Lib.hid ar
  have HARF := Lib.hid arf
  have HAK := Lib.hid ak
  have HSP := Lib.hid asp
  have HI := Lib.hid hI
  have HR := Lib.hid hR
  clear h hwa hsa hT hI hR ar arf ak asp
  dsimp only [ActS.v]

  go_enter Try.func22, Try.ntmps22
  go_upto_region 1 with (fail)
  rw [← HWA.out]
  clear HWA
  generalize w.heap.size + 1 + 1 = br at HS ⊢
  generalize w.heap.size + 1 = ba at HS ⊢
  generalize w.heap.size = bw at HS ⊢
  obtain ⟨a0, a1, a2, a3, a4, a5, a6⟩ := ActS.at (HS.out.blk 2 rfl)
  obtain ⟨b0, b1, b2, b3, bf⟩ := cells4 (HS.out.blk 3 rfl)
  go_upto_region 12 with (fail)
  generalize bits .and .i64 a.kind 7 = q at hq ⊢
  subst hq
  go_upto_region 13 with (go_at_call 20; refine (Remove_ok a.t a.k HI.out (by omega) HS.out).mono ?_; rintro e1 w1 ⟨rfl, hs1⟩; have hs1 := hs1.front 4 rfl; have HS1 := Lib.hid hs1; clear hs1 HS a0 a1 a2 a3 a4 a5 a6 b0 b1 b2 b3 bf)
  obtain ⟨a0, a1, a2, a3, a4, a5, a6⟩ := ActS.at (HS1.out.blk 3 rfl)
  obtain ⟨b0, b1, b2, b3, bf⟩ := cells4 (HS1.out.blk 4 rfl)
  obtain ⟨i1, i2, i3, i4, i5⟩ := rmv_ref HR.out HI.out a.t HAK.out
  have HI2 := Lib.hid (HI.out.rmv a.t a.k)
  have HR2 := Lib.hid i2
  have HC2 := Lib.hid i3
  have HM2 := Lib.hid i4
  have HL2 := Lib.hid (And.intro i1 i5)
  clear i2 i3 i4 i1 i5
  go_upto_region 14 with (go_at_call 42; refine (rRmv_ok a.t a.k HT.out HAK.out (HR.out.lok HI.out) (may_cols HI.out) HS1.out).mono ?_; rw [HL2.out.1]; rintro e2 w2 ⟨v2, rfl, hs2⟩; obtain ⟨o2, c2, rfl⟩ := hs2.own_shape; have hs3 := hs2.alloc #[.slice ta A.cols.length tc, .int .i64 A.room, .slice o2 (rRmv A.cols L a.t a.k).1.length c2, .int .i64 A.last] tRf; have HS3 := Lib.hid hs3; clear hs2 hs3 HS1 a0 a1 a2 a3 a4 a5 a6 b0 b1 b2 b3 bf)
  obtain ⟨W3, hW3, hs3⟩ := Sat.hide HS3.out
  rw [← hW3]
  clear hW3 HS3
  have HS3 := Lib.hid hs3
  clear hs3
  generalize w2.heap.size = bn at HS3 ⊢
  obtain ⟨b0, b1, b2, b3, bf⟩ := cells4 (HS3.out.blk 0 rfl)
  obtain ⟨z0, z1, z2, z3, zf⟩ := cells4 (HS3.out.blk 3 rfl)
  have HE := Lib.hid (Sat.set4 (HS3.out.front 3 rfl) (.slice ta A.cols.length tc) (.int .i64 A.room) (.slice o2 (rRmv A.cols L a.t a.k).1.length c2) (.int .i64 A.last))
  go_wp2_with fail
  obtain ⟨e0, e1, e2, e3, _⟩ := cells4 (HE.out.blk 0 rfl)
  try simp only [Exit.inBlock, Exit.then]
  refine bodyPost_ret (results_rf2 rfl _ _ rfl e0 e1 e2 e3) rfl ?_
  refine ⟨(A.rmv a.t a.k).1, (rRmv A.cols L a.t a.k).1, .slice o2 (rRmv A.cols L a.t a.k).1.length c2, by rw [HL2.out.2]; simp, HI2.out, HR2.out, HC2.out, HM2.out, ?_⟩
  exact ((HE.out.drop.drop.front 2 rfl).drop.front 2 rfl).drop

set_option maxHeartbeats 8000000 in
theorem doneRst_ok {B w : World} {D : PH} {s n : Nat} {tv lv : Value} {A : StM} {L : List Pl} {l : List HP} {a : ActS} (hT : TabsD D tv A.cols) (ha : ActOk D a) (hI : StI n A) (hn : n ≤ 300) (hR : RefI D L A) (hq : bits .and .i64 a.kind 7 = 4) (h : Sat B D w (plsP lv L :: storeB s n A :: l)) :
    Calls Try.prog 22 #[.pointer (some ⟨s, 0, none⟩), refV tv A.room lv A.last, a.v] w (DoneQ B D s n tv A l) := by
  obtain ⟨la, lc, rfl⟩ := h.own_shape
  obtain ⟨ta, tc, rfl⟩ := hT.shape
  obtain ⟨ar, arf, ak, asp⟩ := ha
  obtain ⟨wa, hwa, hsa⟩ := with_start h #[.slice ta A.cols.length tc, .int .i64 A.room, .slice la L.length lc, .int .i64 A.last] a.cells.toArray #[.slice none 0 0, .int .i64 0, .slice none 0 0, .int .i64 0] tRf tAct tRf
  dsimp only [ActS.cells, List.toArray] at hwa
  have HWA := Lib.hid hwa
  have HS := Lib.hid (hsa.front 4 rfl)
  have HT := Lib.hid hT
  have HAR := Lib.hid ar
  have HARF := Lib.hid arf
  have HAK := Lib.hid ak
  have HSP := Lib.hid asp
  have HI := Lib.hid hI
  have HR := Lib.hid hR
  clear h hwa hsa hT hI hR ar arf ak asp
  dsimp only [ActS.v]

  go_enter Try.func22, Try.ntmps22
  go_upto_region 1 with (fail)
  rw [← HWA.out]
  clear HWA
  generalize w.heap.size + 1 + 1 = br at HS ⊢
  generalize w.heap.size + 1 = ba at HS ⊢
  generalize w.heap.size = bw at HS ⊢
  obtain ⟨a0, a1, a2, a3, a4, a5, a6⟩ := ActS.at (HS.out.blk 2 rfl)
  obtain ⟨b0, b1, b2, b3, bf⟩ := cells4 (HS.out.blk 3 rfl)
  go_upto_region 16 with (fail)
  generalize bits .and .i64 a.kind 7 = q at hq ⊢
  subst hq
  go_upto_region 17 with (go_at_call 25; refine (Restore_ok a.t a.num HI.out (by omega) (fun W X h => HAR.out.rd h) HS.out).mono ?_; rintro e1 w1 ⟨rfl, hs1⟩; have hs1 := hs1.front 4 rfl; have HS1 := Lib.hid hs1; clear hs1 HS a0 a1 a2 a3 a4 a5 a6 b0 b1 b2 b3 bf)
  obtain ⟨a0, a1, a2, a3, a4, a5, a6⟩ := ActS.at (HS1.out.blk 3 rfl)
  obtain ⟨b0, b1, b2, b3, bf⟩ := cells4 (HS1.out.blk 4 rfl)
  obtain ⟨i1, i2, i3, i4, i5⟩ := rst_ref HR.out HI.out a.t a.num HAR.out HARF.out
  have HI2 := Lib.hid (HI.out.rst a.t a.row a.num)
  have HR2 := Lib.hid i2
  have HC2 := Lib.hid i3
  have HM2 := Lib.hid i4
  have HL2 := Lib.hid (And.intro i1 i5)
  clear i2 i3 i4 i1 i5
  go_upto_region 18 with (go_at_call 43; refine (rRst_ok a.t a.num HT.out HAR.out HARF.out (HR.out.lok HI.out) (may_cols HI.out) HS1.out).mono ?_; rw [HL2.out.1]; rintro e2 w2 ⟨v2, rfl, hs2⟩; obtain ⟨o2, c2, rfl⟩ := hs2.own_shape; have hs3 := hs2.alloc #[.slice ta A.cols.length tc, .int .i64 A.room, .slice o2 (rRst A.cols L a.t a.row a.ro a.rn a.rc a.num).1.length c2, .int .i64 A.last] tRf; have HS3 := Lib.hid hs3; clear hs2 hs3 HS1 a0 a1 a2 a3 a4 a5 a6 b0 b1 b2 b3 bf)
  obtain ⟨W3, hW3, hs3⟩ := Sat.hide HS3.out
  rw [← hW3]
  clear hW3 HS3
  have HS3 := Lib.hid hs3
  clear hs3
  generalize w2.heap.size = bn at HS3 ⊢
  obtain ⟨b0, b1, b2, b3, bf⟩ := cells4 (HS3.out.blk 0 rfl)
  obtain ⟨z0, z1, z2, z3, zf⟩ := cells4 (HS3.out.blk 3 rfl)
  have HE := Lib.hid (Sat.set4 (HS3.out.front 3 rfl) (.slice ta A.cols.length tc) (.int .i64 A.room) (.slice o2 (rRst A.cols L a.t a.row a.ro a.rn a.rc a.num).1.length c2) (.int .i64 A.last))
  go_wp2_with fail
  obtain ⟨e0, e1, e2, e3, _⟩ := cells4 (HE.out.blk 0 rfl)
  try simp only [Exit.inBlock, Exit.then]
  refine bodyPost_ret (results_rf2 rfl _ _ rfl e0 e1 e2 e3) rfl ?_
  refine ⟨(A.rst a.t a.row a.num).1, (rRst A.cols L a.t a.row a.ro a.rn a.rc a.num).1, .slice o2 (rRst A.cols L a.t a.row a.ro a.rn a.rc a.num).1.length c2, by rw [HL2.out.2]; simp, HI2.out, HR2.out, HC2.out, HM2.out, ?_⟩
  exact ((HE.out.drop.drop.front 2 rfl).drop.front 2 rfl).drop

set_option maxHeartbeats 8000000 in
theorem doneFre_ok {B w : World} {D : PH} {s n : Nat} {tv lv : Value} {A : StM} {L : List Pl} {l : List HP} {a : ActS} (hT : TabsD D tv A.cols) (ha : ActOk D a) (hI : StI n A) (hn : n ≤ 300) (hR : RefI D L A) (hq : bits .and .i64 a.kind 7 = 5) (h : Sat B D w (plsP lv L :: storeB s n A :: l)) :
    Calls Try.prog 22 #[.pointer (some ⟨s, 0, none⟩), refV tv A.room lv A.last, a.v] w (DoneQ B D s n tv A l) := by
  obtain ⟨la, lc, rfl⟩ := h.own_shape
  obtain ⟨ta, tc, rfl⟩ := hT.shape
  obtain ⟨ar, arf, ak, asp⟩ := ha
  obtain ⟨wa, hwa, hsa⟩ := with_start h #[.slice ta A.cols.length tc, .int .i64 A.room, .slice la L.length lc, .int .i64 A.last] a.cells.toArray #[.slice none 0 0, .int .i64 0, .slice none 0 0, .int .i64 0] tRf tAct tRf
  dsimp only [ActS.cells, List.toArray] at hwa
  have HWA := Lib.hid hwa
  have HS := Lib.hid (hsa.front 4 rfl)
  have HT := Lib.hid hT
  have HAR := Lib.hid ar
  have HARF := Lib.hid arf
  have HAK := Lib.hid ak
  have HSP := Lib.hid asp
  have HI := Lib.hid hI
  have HR := Lib.hid hR
  clear h hwa hsa hT hI hR ar arf ak asp
  dsimp only [ActS.v]

  go_enter Try.func22, Try.ntmps22
  go_upto_region 1 with (fail)
  rw [← HWA.out]
  clear HWA
  generalize w.heap.size + 1 + 1 = br at HS ⊢
  generalize w.heap.size + 1 = ba at HS ⊢
  generalize w.heap.size = bw at HS ⊢
  obtain ⟨a0, a1, a2, a3, a4, a5, a6⟩ := ActS.at (HS.out.blk 2 rfl)
  obtain ⟨b0, b1, b2, b3, bf⟩ := cells4 (HS.out.blk 3 rfl)
  go_upto_region 20 with (fail)
  generalize bits .and .i64 a.kind 7 = q at hq ⊢
  subst hq
  go_upto_region 21 with (go_at_call 19; refine (Free_ok a.t a.k HI.out (by omega) HS.out).mono ?_; rintro e1 w1 ⟨rfl, hs1⟩; have hs1 := hs1.front 4 rfl; have HS1 := Lib.hid hs1; clear hs1 HS a0 a1 a2 a3 a4 a5 a6 b0 b1 b2 b3 bf)
  obtain ⟨a0, a1, a2, a3, a4, a5, a6⟩ := ActS.at (HS1.out.blk 3 rfl)
  obtain ⟨b0, b1, b2, b3, bf⟩ := cells4 (HS1.out.blk 4 rfl)
  obtain ⟨i1, i2, i3, i4, i5⟩ := fre_ref HR.out HI.out a.t a.k
  have HI2 := Lib.hid (HI.out.fre a.t a.k)
  have HR2 := Lib.hid i2
  have HC2 := Lib.hid i3
  have HM2 := Lib.hid i4
  have HL2 := Lib.hid (And.intro i1 i5)
  clear i2 i3 i4 i1 i5
  go_upto_region 22 with (go_at_call 44; refine (rFre_ok a.t a.k HT.out (HR.out.lok HI.out) HS1.out).mono ?_; rw [HL2.out.1]; rintro e2 w2 ⟨v2, rfl, hs2⟩; obtain ⟨o2, c2, rfl⟩ := hs2.own_shape; have hs3 := hs2.alloc #[.slice ta A.cols.length tc, .int .i64 A.room, .slice o2 (rFre A.cols L a.t a.k).1.length c2, .int .i64 A.last] tRf; have HS3 := Lib.hid hs3; clear hs2 hs3 HS1 a0 a1 a2 a3 a4 a5 a6 b0 b1 b2 b3 bf)
  obtain ⟨W3, hW3, hs3⟩ := Sat.hide HS3.out
  rw [← hW3]
  clear hW3 HS3
  have HS3 := Lib.hid hs3
  clear hs3
  generalize w2.heap.size = bn at HS3 ⊢
  obtain ⟨b0, b1, b2, b3, bf⟩ := cells4 (HS3.out.blk 0 rfl)
  obtain ⟨z0, z1, z2, z3, zf⟩ := cells4 (HS3.out.blk 3 rfl)
  have HE := Lib.hid (Sat.set4 (HS3.out.front 3 rfl) (.slice ta A.cols.length tc) (.int .i64 A.room) (.slice o2 (rFre A.cols L a.t a.k).1.length c2) (.int .i64 A.last))
  go_wp2_with fail
  obtain ⟨e0, e1, e2, e3, _⟩ := cells4 (HE.out.blk 0 rfl)
  try simp only [Exit.inBlock, Exit.then]
  refine bodyPost_ret (results_rf2 rfl _ _ rfl e0 e1 e2 e3) rfl ?_
  refine ⟨(A.fre a.t a.k).1, (rFre A.cols L a.t a.k).1, .slice o2 (rFre A.cols L a.t a.k).1.length c2, by rw [HL2.out.2]; simp, HI2.out, HR2.out, HC2.out, HM2.out, ?_⟩
  exact ((HE.out.drop.drop.front 2 rfl).drop.front 2 rfl).drop
end Go.Proofs.Ytcbklkcpjldcjaa
