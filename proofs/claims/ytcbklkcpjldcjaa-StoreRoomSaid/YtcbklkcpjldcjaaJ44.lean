/- An act that asks for a span; any act. (printed by genst25.py) -/
import Derived.Test.YtcbklkcpjldcjaaJ43
import Derived.Test.YtcbklkcpjldcjaaJ41
namespace Go.Proofs.Ytcbklkcpjldcjaa
open Go.ChangeShapes Go.WideShapes Go.ChangeAt Go.RowKit
set_option maxRecDepth 100000
set_option linter.unusedSimpArgs false

theorem rowsP_rd {B w : World} {D : PH} {l : List HP} {v : Value} {rs : List (List Val)} (h : Sat B D w (rowsP v rs :: l)) : RowsRd w v rs := by
  obtain ⟨xs, rfl, h1⟩ := Sat.open_ex h
  refine ⟨xs.map RowE.v, by simp, ?_, fun i u r hu hr => ?_⟩
  · have := (Sat.own h1 0 rfl).rd
    rw [List.length_map]
    exact this
  · rw [List.getElem?_map] at hu hr
    cases hx : xs[i]? with
    | none => rw [hx] at hu; cases hu
    | some x =>
      rw [hx] at hu hr
      cases hu
      cases hr
      have h2 := (Sat.swap h1).ungroup
      have h3 : (xs.map rowP)[i]? = some (rowP x) := by rw [List.getElem?_map, hx]; rfl
      exact (Sat.own (h2.perm ((perm_get _ i _ h3).append_right _)) 0 rfl).rd
theorem scanR_rd {B w : World} {D : PH} {l : List HP} {v : Value} {L : List Pl} {n : Nat} {A : StM} (hR : RefI D L A) (hI : StI n A) (t : Int) (sp : Spn) (h : Sat B D w (ownS tR 1 v (L.filter (scP t sp)).length ((L.filter (scP t sp)).map Pl.hv) :: l)) : RowsRd w v (scanA A t sp) := by
  rw [← scan_same hR hI t sp]
  refine ⟨(L.filter (scP t sp)).map Pl.hv, by simp, ?_, fun i u r hu hr => ?_⟩
  · rw [List.length_map]
    exact (Sat.own h 0 rfl).rd
  · rw [List.getElem?_map] at hu hr
    cases hx : (L.filter (scP t sp))[i]? with
    | none => rw [hx] at hu; cases hu
    | some x =>
      rw [hx] at hu hr
      cases hu
      cases hr
      exact (hR.rows x (List.mem_filter.1 (List.mem_of_getElem? hx)).1).rd h

set_option maxHeartbeats 8000000 in
theorem doneScan_ok {B w : World} {D : PH} {s n : Nat} {tv lv : Value} {A : StM} {L : List Pl} {l : List HP} {a : ActS} (hT : TabsD D tv A.cols) (ha : ActOk D a) (hI : StI n A) (_hn : n ≤ 300) (hR : RefI D L A) (q0 : (bits .and .i64 a.kind 7 == 0) = false) (q1 : (bits .and .i64 a.kind 7 == 1) = false) (q2 : (bits .and .i64 a.kind 7 == 2) = false) (q3 : (bits .and .i64 a.kind 7 == 3) = false) (q4 : (bits .and .i64 a.kind 7 == 4) = false) (q5 : (bits .and .i64 a.kind 7 == 5) = false) (h : Sat B D w (plsP lv L :: storeB s n A :: l)) :
    Calls Try.prog 22 #[.pointer (some ⟨s, 0, none⟩), refV tv A.room lv A.last, a.v] w (DoneQ B D s n tv A l) := by
  obtain ⟨la, lc, rfl⟩ := h.own_shape
  obtain ⟨ta, tc, rfl⟩ := hT.shape
  obtain ⟨ar, arf, ak, asp⟩ := ha
  obtain ⟨wa, hwa, hsa⟩ := with_start h #[.slice ta A.cols.length tc, .int .i64 A.room, .slice la L.length lc, .int .i64 A.last] a.cells.toArray #[.slice none 0 0, .int .i64 0, .slice none 0 0, .int .i64 0] tRf tAct tRf
  dsimp only [ActS.cells, List.toArray] at hwa
  have HWA := Lib.hid hwa
  have HS := Lib.hid (hsa.front 4 rfl)
  have HSP := Lib.hid asp
  have HI := Lib.hid hI
  have HR := Lib.hid hR
  clear h hwa hsa hT hI hR ar arf ak asp
  dsimp only [ActS.v]
  go_enter Try.func22, Try.ntmps22
  go_upto_region 1 with (fail)
  rw [← HWA.out]
  clear HWA
  generalize w.heap.size + 1 + 1 = br at HS ⊢
  generalize w.heap.size + 1 = ba at HS ⊢
  generalize w.heap.size = bw at HS ⊢
  obtain ⟨a0, a1, a2, a3, a4, a5, a6⟩ := ActS.at (HS.out.blk 2 rfl)
  go_upto_region 2 with (fail)
  generalize bits .and .i64 a.kind 7 = q at *
  go_upto_region 23 with (fail)
  obtain ⟨s0, s1, s2, s3, s4, s5, s6, s7, s8, s9, s10⟩ := ActS.spAt (HS.out.blk 2 rfl)
  obtain ⟨b0, b1, b2, b3, bf⟩ := cells4 (HS.out.blk 3 rfl)
  obtain ⟨z0, z1, z2, z3, zf⟩ := cells4 (HS.out.blk 1 rfl)
  refine wp_region_canon [(0, false, 14), (1, false, 6), (2, false, 6), (3, false, 6), (4, false, 6), (5, false, 6), (7, false, 12), (8, false, 12), (9, false, 12), (10, false, 12), (11, false, 12), (6, true, 0), (12, true, 0), (13, true, 0), (14, true, 0), (15, false, 999)] (by kernel_rfl) (by kernel_rfl) ?_
  iterate 11 (refine wpCan_read rfl rfl (fun K hK => ?_); go_simp; refine hK _ ?_; clear hK K)
  refine wpCan_eff rfl ?_
  refine wpList_do rfl (fun K hK => ?_)
  go_simp
  refine (rows_ok a.t a.sp HI.out HS.out.drew).mono ?_
  rintro e1 w1 ⟨v1, rfl, hs1⟩
  clear a0 a1 a2 a3 a4 a5 a6 s0 s1 s2 s3 s4 s5 s6 s7 s8 s9 s10 b0 b1 b2 b3 bf z0 z1 z2 z3 zf
  obtain ⟨a0, a1, a2, a3, a4, a5, a6⟩ := ActS.at (hs1.blk 3 rfl)
  obtain ⟨s0, s1, s2, s3, s4, s5, s6, s7, s8, s9, s10⟩ := ActS.spAt (hs1.blk 3 rfl)
  obtain ⟨b0, b1, b2, b3, bf⟩ := cells4 (hs1.blk 4 rfl)
  have HS1 := Lib.hid (hs1.front 5 rfl)
  clear hs1
  refine hK _ _ ?_
  clear hK K
  refine wpList_nil ?_
  refine And.intro ?_ ?_
  · go_simp
  refine wpCan_eff rfl ?_
  refine wpList_do rfl (fun K hK => ?_)
  go_simp
  refine (rScan_ok a.t a.sp HSP.out (HR.out.lok HI.out) HS1.out).mono ?_
  rintro e2 w2 ⟨v2, rfl, hs2⟩
  clear a0 a1 a2 a3 a4 a5 a6 s0 s1 s2 s3 s4 s5 s6 s7 s8 s9 s10 b0 b1 b2 b3 bf
  obtain ⟨b0, b1, b2, b3, bf⟩ := cells4 (hs2.blk 6 rfl)
  have HRD2 := Lib.hid (scanR_rd HR.out HI.out a.t a.sp hs2)
  have HRD1 := Lib.hid (rowsP_rd (hs2.front 2 rfl))
  have HS2 := Lib.hid hs2
  clear hs2
  refine hK _ _ ?_
  clear hK K
  refine wpList_nil ?_
  refine And.intro ?_ ?_
  · go_simp
  refine wpCan_eff rfl ?_
  refine wpList_do rfl (fun K hK => ?_)
  go_simp
  refine (rRows_ok HRD1.out HRD2.out).mono ?_
  rintro e3 w3 ⟨rfl, hk3⟩
  clear b0 b1 b2 b3 bf
  have HS3 := Lib.hid (HS2.out.kept hk3)
  clear hk3 HS2 HRD1 HRD2
  obtain ⟨b0, b1, b2, b3, bf⟩ := cells4 (HS3.out.blk 6 rfl)
  obtain ⟨z0, z1, z2, z3, zf⟩ := cells4 (HS3.out.blk 4 rfl)
  refine hK _ _ ?_
  clear hK K
  refine wpList_nil ?_
  refine And.intro ?_ ?_
  · go_simp
  refine wpCan_eff rfl ?_
  have HE := Lib.hid (Sat.set4 (HS3.out.front 4 rfl) (.slice ta A.cols.length tc) (.int .i64 A.room) (.slice la L.length lc) (.int .i64 A.last))
  refine wpList_plain rfl (fun K hK => ?_)
  go_simp
  refine hK _ _ ?_
  clear hK K
  refine wpList_nil ?_
  refine And.intro ?_ ?_
  · go_simp
  iterate 1 (refine wpCan_read rfl rfl (fun K hK => ?_); go_simp; refine hK _ ?_; clear hK K)
  refine wpCan_nil ?_
  go_wp2_with fail
  obtain ⟨e0, e1, e2, e3, _⟩ := cells4 (HE.out.blk 0 rfl)
  try simp only [Exit.inBlock, Exit.then]
  refine bodyPost_ret (results_rf2 rfl _ _ rfl e0 e1 e2 e3) rfl ?_
  refine ⟨A, L, .slice la L.length lc, by simp, HI.out.more (Nat.le_succ n), HR.out, rfl, rfl, ?_⟩
  exact (bareMore (Nat.le_succ n) ((((HE.out.drop.drop.front 1 rfl).drop.front 2 rfl).drop.front 2 rfl).drop).swap).swap
end Go.Proofs.Ytcbklkcpjldcjaa
