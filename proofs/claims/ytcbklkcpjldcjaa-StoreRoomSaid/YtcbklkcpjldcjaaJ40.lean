/- The document's answer for the store (ratlineref06): Replace, Remove, Restore. -/
import Derived.Test.YtcbklkcpjldcjaaJ39
namespace Go.Proofs.Ytcbklkcpjldcjaa
open Go.ChangeShapes Go.WideShapes Go.ChangeAt Go.RowKit
set_option maxRecDepth 100000
set_option linter.unusedSimpArgs false

set_option maxHeartbeats 8000000 in
theorem rRep_ok {B w : World} {D : PH} {tv lv : Value} {cs : List (List Bool)} {room last : Int} {L : List Pl} {l : List HP} (t : Int) {ro : Option Addr} {rn rc : Nat} {r : List Val} (hT : TabsD D tv cs) (hr : RowD D (.slice ro rn rc) r) (hrf : ∀ v ∈ r, v.fits) (hF : LOk L) (hcs : cs.length ≤ 100) (h : Sat B D w (plsP lv L :: l)) :
    Calls Try.prog 41 #[refV tv room lv last, .int .i64 t, .slice ro rn rc] w fun e w' => ∃ v', e = .returned (.tuple #[refV tv room v' last, .int .i64 (rRep cs L t r ro rn rc).2]) ∧ Sat B D w' (plsP v' (rRep cs L t r ro rn rc).1 :: l) := by
  obtain ⟨la, lc, rfl⟩ := h.own_shape
  obtain ⟨ta, tc, rfl⟩ := hT.shape
  obtain rfl : rn = r.length := by obtain ⟨_, _, hrv⟩ := hr.shape; cases hrv; rfl
  obtain ⟨wa, hwa, hsa⟩ := ref_start2 h #[.slice ta cs.length tc, .int .i64 room, .slice la L.length lc, .int .i64 last] #[.slice none 0 0, .int .i64 0, .slice none 0 0, .int .i64 0] tRf tRf
  have HS := Lib.hid hsa
  have HWA := Lib.hid hwa
  have HF := Lib.hid hF
  have HT := Lib.hid hT
  have HR := Lib.hid hr
  have HRF := Lib.hid hrf
  have HFT := Lib.hid (rFitsS_ok (lo := la) (ln := L.length) (lc := lc) (room := room) (last := last) t (hT.rd hsa) (hr.rd hsa))
  clear h hwa hsa hF hT hr hrf
  go_enter Try.func41, Try.ntmps41
  go_upto_region 1 with (fail)
  rw [← HWA.out]
  clear HWA
  generalize w.heap.size + 1 = br at HS ⊢
  generalize w.heap.size = bs at HS ⊢
  obtain ⟨b0, b1, b2, b3, bf⟩ := cells4 (HS.out.blk 1 rfl)
  obtain ⟨z0, z1, z2, z3, zf⟩ := cells4 (HS.out.blk 0 rfl)
  cases hf : fitsR cs t r
  · have HFF := Lib.hid hf
    have HD := Lib.hid (show rRep cs L t r ro r.length rc = (L, 1) by unfold rRep; rw [hf]; rfl)
    clear hf
    go_wp2_with (go_at_call 59; refine HFT.out.mono ?_; rw [HFF.out]; rintro e1 w1 ⟨rfl, hk1⟩; have hs1 := HS.out.kept hk1; have HE := Lib.hid (Sat.set4 hs1 (.slice ta cs.length tc) (.int .i64 room) (.slice la L.length lc) (.int .i64 last)); clear hk1 b0 b1 b2 b3 bf z0 z1 z2 z3 zf; obtain ⟨b0, b1, b2, b3, bf⟩ := cells4 (hs1.blk 1 rfl); obtain ⟨z0, z1, z2, z3, zf⟩ := cells4 (hs1.blk 0 rfl); clear hs1)
    obtain ⟨e0, e1, e2, e3, _⟩ := cells4 (HE.out.blk 0 rfl)
    try simp only [Exit.inBlock, Exit.then]
    refine bodyPost_ret (results_rf2 rfl _ _ rfl e0 e1 e2 e3) rfl ?_
    rw [HD.out]
    exact ⟨_, rfl, HE.out.drop.drop⟩
  obtain ⟨q1, q2, q3, q4⟩ := fitsR_key hf
  have HFF := Lib.hid hf
  have HU := Lib.hid (show rRep cs L t r ro r.length rc = (if rgot L t (keyOf r) then (withL L ⟨t, keyOf r, r, ro, r.length, rc, rnum L t (keyOf r)⟩, 0) else (L, 61)) by unfold rRep; rw [hf]; rfl)
  have hlen2 : 0 < r.length := by omega
  have hlen : (0 : Int) < (r.length : Int) := by omega
  obtain ⟨rg, rog, rfl⟩ := row_src (HR.out.rd HS.out) q2 rfl
  have HQ := Lib.hid q2
  have HKF := Lib.hid (HRF.out _ (List.mem_of_getElem? q2))
  have HTT := Lib.hid (q4 hcs)
  clear hf q2 q3 q4
  generalize hkk : keyOf r = k at *
  go_upto_region 4 with (go_at_call 59; refine HFT.out.mono ?_; clear HFT; rw [HFF.out]; rintro e1 w1 ⟨rfl, hk1⟩; have HS1 := Lib.hid (HS.out.kept hk1); clear hk1 HS b0 b1 b2 b3 bf z0 z1 z2 z3 zf; obtain ⟨b0, b1, b2, b3, bf⟩ := cells4 (HS1.out.blk 1 rfl); obtain ⟨z0, z1, z2, z3, zf⟩ := cells4 (HS1.out.blk 0 rfl); obtain ⟨y0, y1, y2⟩ := key0_cells (HR.out.rd HS1.out) HQ.out)
  rcases rgetV_is L t k with ⟨hg, xv, hx⟩ | ⟨hg, hx⟩
  · have HG := Lib.hid hx
    have HGO := Lib.hid hg
    clear hx hg
    have HD := Lib.hid (HU.out.trans (by rw [HGO.out]; rfl) : rRep cs L t r (some ⟨rg, rog, none⟩) r.length rc = (withL L ⟨t, k, r, some ⟨rg, rog, none⟩, r.length, rc, rnum L t k⟩, 0))
    refine wp_region_canon [(0, false, 5), (1, false, 5), (2, false, 5), (3, false, 5), (4, false, 5), (5, true, 0), (6, false, 999), (7, false, 999), (8, false, 999), (9, false, 999), (10, false, 999), (11, false, 999), (12, false, 999)] (by kernel_rfl) (by kernel_rfl) ?_
    iterate 5 (refine wpCan_read rfl rfl (fun K hK => ?_); go_simp; refine hK _ ?_; clear hK K)
    refine wpCan_eff rfl ?_
    refine wpList_do rfl (fun K hK => ?_)
    go_simp
    refine (rGet_ok t k (HS1.out.drew.own 2 rfl).rd).mono ?_
    rw [HG.out]
    rintro e2 w2 ⟨rfl, hk2⟩
    have HS2 := Lib.hid (HS1.out.drew.kept hk2)
    clear hk2 y0 y1 y2 HS1 b0 b1 b2 b3 bf z0 z1 z2 z3 zf
    refine hK _ _ ?_
    clear hK K
    refine wpList_nil ?_
    refine And.intro ?_ ?_
    · go_simp
    iterate 7 (refine wpCan_read rfl rfl (fun K hK => ?_); go_simp; refine hK _ ?_; clear hK K)
    refine wpCan_nil ?_
    go_upto_region 7 with fail
    obtain ⟨b0, b1, b2, b3, bf⟩ := cells4 (HS2.out.blk 1 rfl)
    obtain ⟨z0, z1, z2, z3, zf⟩ := cells4 (HS2.out.blk 0 rfl)
    obtain ⟨y0, y1, y2⟩ := key0_cells (HR.out.rd HS2.out) HQ.out
    refine wp_region_canon [(0, false, 8), (1, false, 8), (2, false, 8), (3, false, 8), (4, false, 8), (5, false, 8), (6, false, 8), (7, false, 8), (8, true, 0), (9, true, 0), (10, false, 999)] (by kernel_rfl) (by kernel_rfl) ?_
    iterate 8 (refine wpCan_read rfl rfl (fun K hK => ?_); go_simp; refine hK _ ?_; clear hK K)
    refine wpCan_eff rfl ?_
    refine wpList_do rfl (fun K hK => ?_)
    go_simp
    refine (with_ok ⟨t, k, r, some ⟨rg, rog, none⟩, r.length, rc, rnum L t k⟩ HKF.out HF.out.1 HTT.out HF.out.2.1 HF.out.2.2 (with_first HS2.out.drew)).mono ?_
    rintro e5 w5 ⟨v5, rfl, hs5⟩
    have hs5 := with_back hs5
    obtain ⟨o5, c5, rfl⟩ := (hs5.front 2 rfl).own_shape
    have HS5 := Lib.hid hs5
    have HE := Lib.hid (Sat.set4 hs5 (.slice ta cs.length tc) (.int .i64 room) (.slice o5 (withL L ⟨t, k, r, some ⟨rg, rog, none⟩, r.length, rc, rnum L t k⟩).length c5) (.int .i64 last))
    clear hs5 HS2 b0 b1 b2 b3 bf z0 z1 z2 z3 zf y0 y1 y2
    obtain ⟨b0, b1, b2, b3, bf⟩ := cells4 (HS5.out.blk 1 rfl)
    obtain ⟨z0, z1, z2, z3, zf⟩ := cells4 (HS5.out.blk 0 rfl)
    refine hK _ _ ?_
    clear hK K
    refine wpList_nil ?_
    refine And.intro ?_ ?_
    · go_simp
    refine wpCan_eff rfl ?_
    refine wpList_plain rfl (fun K hK => ?_)
    go_simp
    refine hK _ _ ?_
    clear hK K
    refine wpList_nil ?_
    skip
    refine And.intro ?_ ?_
    · go_simp
    iterate 1 (refine wpCan_read rfl rfl (fun K hK => ?_); go_simp; refine hK _ ?_; clear hK K)
    refine wpCan_nil ?_
    go_wp2_with fail
    obtain ⟨e0, e1, e2, e3, _⟩ := cells4 (HE.out.blk 0 rfl)
    try simp only [Exit.inBlock, Exit.then]
    refine bodyPost_ret (results_rf2 rfl _ _ rfl e0 e1 e2 e3) rfl ?_
    rw [HD.out]
    exact ⟨_, rfl, HE.out.drop.drop⟩
  · have HG := Lib.hid hx
    have HGO := Lib.hid hg
    clear hx hg
    have HD := Lib.hid (HU.out.trans (by rw [HGO.out]; rfl) : rRep cs L t r (some ⟨rg, rog, none⟩) r.length rc = (L, 61))
    refine wp_region_canon [(0, false, 5), (1, false, 5), (2, false, 5), (3, false, 5), (4, false, 5), (5, true, 0), (6, false, 999), (7, false, 999), (8, false, 999), (9, false, 999), (10, false, 999), (11, false, 999), (12, false, 999)] (by kernel_rfl) (by kernel_rfl) ?_
    iterate 5 (refine wpCan_read rfl rfl (fun K hK => ?_); go_simp; refine hK _ ?_; clear hK K)
    refine wpCan_eff rfl ?_
    refine wpList_do rfl (fun K hK => ?_)
    go_simp
    refine (rGet_ok t k (HS1.out.drew.own 2 rfl).rd).mono ?_
    rw [HG.out]
    rintro e2 w2 ⟨rfl, hk2⟩
    have HS2 := Lib.hid (HS1.out.drew.kept hk2)
    clear hk2 y0 y1 y2 HS1 b0 b1 b2 b3 bf z0 z1 z2 z3 zf
    refine hK _ _ ?_
    clear hK K
    refine wpList_nil ?_
    refine And.intro ?_ ?_
    · go_simp
    iterate 7 (refine wpCan_read rfl rfl (fun K hK => ?_); go_simp; refine hK _ ?_; clear hK K)
    refine wpCan_nil ?_
    have HE := Lib.hid (Sat.set4 HS2.out (.slice ta cs.length tc) (.int .i64 room) (.slice la L.length lc) (.int .i64 last))
    obtain ⟨b0, b1, b2, b3, bf⟩ := cells4 (HS2.out.blk 1 rfl)
    obtain ⟨z0, z1, z2, z3, zf⟩ := cells4 (HS2.out.blk 0 rfl)
    go_wp2_with fail
    obtain ⟨e0, e1, e2, e3, _⟩ := cells4 (HE.out.blk 0 rfl)
    try simp only [Exit.inBlock, Exit.then]
    refine bodyPost_ret (results_rf2 rfl _ _ rfl e0 e1 e2 e3) rfl ?_
    rw [HD.out]
    exact ⟨_, rfl, HE.out.drop.drop⟩

set_option maxHeartbeats 8000000 in
theorem rRst_ok {B w : World} {D : PH} {tv lv : Value} {cs : List (List Bool)} {room last : Int} {L : List Pl} {l : List HP} (t : Int) {ro : Option Addr} {rn rc : Nat} {r : List Val} (num : Int) (hT : TabsD D tv cs) (hr : RowD D (.slice ro rn rc) r) (hrf : ∀ v ∈ r, v.fits) (hF : LOk L) (hcs : cs.length ≤ 100) (h : Sat B D w (plsP lv L :: l)) :
    Calls Try.prog 43 #[refV tv room lv last, .int .i64 t, .slice ro rn rc, .int .i64 num] w fun e w' => ∃ v', e = .returned (.tuple #[refV tv room v' last, .int .i64 (rRst cs L t r ro rn rc num).2]) ∧ Sat B D w' (plsP v' (rRst cs L t r ro rn rc num).1 :: l) := by
  obtain ⟨la, lc, rfl⟩ := h.own_shape
  obtain ⟨ta, tc, rfl⟩ := hT.shape
  obtain rfl : rn = r.length := by obtain ⟨_, _, hrv⟩ := hr.shape; cases hrv; rfl
  obtain ⟨wa, hwa, hsa⟩ := ref_start2 h #[.slice ta cs.length tc, .int .i64 room, .slice la L.length lc, .int .i64 last] #[.slice none 0 0, .int .i64 0, .slice none 0 0, .int .i64 0] tRf tRf
  have HS := Lib.hid hsa
  have HWA := Lib.hid hwa
  have HF := Lib.hid hF
  have HT := Lib.hid hT
  have HR := Lib.hid hr
  have HRF := Lib.hid hrf
  have HFT := Lib.hid (rFitsS_ok (lo := la) (ln := L.length) (lc := lc) (room := room) (last := last) t (hT.rd hsa) (hr.rd hsa))
  clear h hwa hsa hF hT hr hrf
  go_enter Try.func43, Try.ntmps43
  go_upto_region 1 with (fail)
  rw [← HWA.out]
  clear HWA
  generalize w.heap.size + 1 = br at HS ⊢
  generalize w.heap.size = bs at HS ⊢
  obtain ⟨b0, b1, b2, b3, bf⟩ := cells4 (HS.out.blk 1 rfl)
  obtain ⟨z0, z1, z2, z3, zf⟩ := cells4 (HS.out.blk 0 rfl)
  cases hf : fitsR cs t r
  · have HFF := Lib.hid hf
    have HD := Lib.hid (show rRst cs L t r ro r.length rc num = (L, 1) by unfold rRst; rw [hf]; rfl)
    clear hf
    go_wp2_with (go_at_call 59; refine HFT.out.mono ?_; rw [HFF.out]; rintro e1 w1 ⟨rfl, hk1⟩; have hs1 := HS.out.kept hk1; have HE := Lib.hid (Sat.set4 hs1 (.slice ta cs.length tc) (.int .i64 room) (.slice la L.length lc) (.int .i64 last)); clear hk1 b0 b1 b2 b3 bf z0 z1 z2 z3 zf; obtain ⟨b0, b1, b2, b3, bf⟩ := cells4 (hs1.blk 1 rfl); obtain ⟨z0, z1, z2, z3, zf⟩ := cells4 (hs1.blk 0 rfl); clear hs1)
    obtain ⟨e0, e1, e2, e3, _⟩ := cells4 (HE.out.blk 0 rfl)
    try simp only [Exit.inBlock, Exit.then]
    refine bodyPost_ret (results_rf2 rfl _ _ rfl e0 e1 e2 e3) rfl ?_
    rw [HD.out]
    exact ⟨_, rfl, HE.out.drop.drop⟩
  obtain ⟨q1, q2, q3, q4⟩ := fitsR_key hf
  have HFF := Lib.hid hf
  have HU := Lib.hid (show rRst cs L t r ro r.length rc num = (if rgot L t (keyOf r) || decide (atN L t (keyOf r) < 0) then (L, 61) else (withL L ⟨t, keyOf r, r, ro, r.length, rc, num⟩, 0)) by unfold rRst; rw [hf]; rfl)
  have hlen2 : 0 < r.length := by omega
  have hlen : (0 : Int) < (r.length : Int) := by omega
  obtain ⟨rg, rog, rfl⟩ := row_src (HR.out.rd HS.out) q2 rfl
  have HQ := Lib.hid q2
  have HKF := Lib.hid (HRF.out _ (List.mem_of_getElem? q2))
  have HTT := Lib.hid (q4 hcs)
  clear hf q2 q3 q4
  generalize hkk : keyOf r = k at *
  go_upto_region 4 with (go_at_call 59; refine HFT.out.mono ?_; clear HFT; rw [HFF.out]; rintro e1 w1 ⟨rfl, hk1⟩; have HS1 := Lib.hid (HS.out.kept hk1); clear hk1 HS b0 b1 b2 b3 bf z0 z1 z2 z3 zf; obtain ⟨b0, b1, b2, b3, bf⟩ := cells4 (HS1.out.blk 1 rfl); obtain ⟨z0, z1, z2, z3, zf⟩ := cells4 (HS1.out.blk 0 rfl); obtain ⟨y0, y1, y2⟩ := key0_cells (HR.out.rd HS1.out) HQ.out)
  rcases rgetV_is L t k with ⟨hg, xv, hx⟩ | ⟨hg, hx⟩
  · have HG := Lib.hid hx
    have HGO := Lib.hid hg
    clear hx hg
    have HD := Lib.hid (HU.out.trans (by rw [HGO.out]; rfl) : rRst cs L t r (some ⟨rg, rog, none⟩) r.length rc num = (L, 61))
    refine wp_region_canon [(0, false, 5), (1, false, 5), (2, false, 5), (3, false, 5), (4, false, 5), (5, true, 0), (6, false, 999), (7, false, 999), (8, false, 999), (9, false, 999), (10, false, 999), (11, false, 999), (12, false, 999)] (by kernel_rfl) (by kernel_rfl) ?_
    iterate 5 (refine wpCan_read rfl rfl (fun K hK => ?_); go_simp; refine hK _ ?_; clear hK K)
    refine wpCan_eff rfl ?_
    refine wpList_do rfl (fun K hK => ?_)
    go_simp
    refine (rGet_ok t k (HS1.out.drew.own 2 rfl).rd).mono ?_
    rw [HG.out]
    rintro e2 w2 ⟨rfl, hk2⟩
    have HS2 := Lib.hid (HS1.out.drew.kept hk2)
    clear hk2 y0 y1 y2 HS1 b0 b1 b2 b3 bf z0 z1 z2 z3 zf
    refine hK _ _ ?_
    clear hK K
    refine wpList_nil ?_
    refine And.intro ?_ ?_
    · go_simp
    iterate 7 (refine wpCan_read rfl rfl (fun K hK => ?_); go_simp; refine hK _ ?_; clear hK K)
    refine wpCan_nil ?_
    go_upto_region 5 with fail
    obtain ⟨b0, b1, b2, b3, bf⟩ := cells4 (HS2.out.blk 1 rfl)
    obtain ⟨z0, z1, z2, z3, zf⟩ := cells4 (HS2.out.blk 0 rfl)
    obtain ⟨y0, y1, y2⟩ := key0_cells (HR.out.rd HS2.out) HQ.out
    refine wp_region_canon [(0, false, 7), (1, false, 7), (2, false, 7), (3, false, 7), (4, false, 7), (5, false, 7), (6, false, 7), (7, true, 0), (8, false, 999), (9, false, 999)] (by kernel_rfl) (by kernel_rfl) ?_
    iterate 2 (refine wpCan_read rfl rfl (fun K hK => ?_); go_simp; refine hK _ ?_; clear hK K)
    first | (refine wpCan_no rfl rfl ?_; simp only [Act.put, List.setIfInBounds_toArray, List.set_cons_succ, List.set_cons_zero, List.getElem_toArray, List.getElem_cons_succ, List.getElem_cons_zero]) | (refine wpCan_yes rfl rfl (fun K hK => ?_); go_simp; refine hK _ ?_; clear hK K)
    first | (refine wpCan_no rfl rfl ?_; simp only [Act.put, List.setIfInBounds_toArray, List.set_cons_succ, List.set_cons_zero, List.getElem_toArray, List.getElem_cons_succ, List.getElem_cons_zero]) | (refine wpCan_yes rfl rfl (fun K hK => ?_); go_simp; refine hK _ ?_; clear hK K)
    first | (refine wpCan_no rfl rfl ?_; simp only [Act.put, List.setIfInBounds_toArray, List.set_cons_succ, List.set_cons_zero, List.getElem_toArray, List.getElem_cons_succ, List.getElem_cons_zero]) | (refine wpCan_yes rfl rfl (fun K hK => ?_); go_simp; refine hK _ ?_; clear hK K)
    first | (refine wpCan_no rfl rfl ?_; simp only [Act.put, List.setIfInBounds_toArray, List.set_cons_succ, List.set_cons_zero, List.getElem_toArray, List.getElem_cons_succ, List.getElem_cons_zero]) | (refine wpCan_yes rfl rfl (fun K hK => ?_); go_simp; refine hK _ ?_; clear hK K)
    first | (refine wpCan_no rfl rfl ?_; simp only [Act.put, List.setIfInBounds_toArray, List.set_cons_succ, List.set_cons_zero, List.getElem_toArray, List.getElem_cons_succ, List.getElem_cons_zero]) | (refine wpCan_yes rfl rfl (fun K hK => ?_); go_simp; refine hK _ ?_; clear hK K)
    refine wpCan_eff rfl ?_
    refine wpList_not rfl ?_
    simp only [Act.put, List.setIfInBounds_toArray, List.set_cons_succ, List.set_cons_zero]
    refine wpList_nil ?_
    refine And.intro ?_ ?_
    · go_simp
    first | (refine wpCan_no rfl rfl ?_; simp only [Act.put, List.setIfInBounds_toArray, List.set_cons_succ, List.set_cons_zero, List.getElem_toArray, List.getElem_cons_succ, List.getElem_cons_zero]) | (refine wpCan_yes rfl rfl (fun K hK => ?_); go_simp; refine hK _ ?_; clear hK K)
    iterate 1 (refine wpCan_read rfl rfl (fun K hK => ?_); go_simp; refine hK _ ?_; clear hK K)
    refine wpCan_nil ?_
    have HE := Lib.hid (Sat.set4 HS2.out.drew (.slice ta cs.length tc) (.int .i64 room) (.slice la L.length lc) (.int .i64 last))
    go_wp2_with fail
    obtain ⟨e0, e1, e2, e3, _⟩ := cells4 (HE.out.blk 0 rfl)
    try simp only [Exit.inBlock, Exit.then]
    refine bodyPost_ret (results_rf2 rfl _ _ rfl e0 e1 e2 e3) rfl ?_
    rw [HD.out]
    exact ⟨_, rfl, HE.out.drop.drop⟩
  · have HG := Lib.hid hx
    have HGO := Lib.hid hg
    clear hx hg
    refine wp_region_canon [(0, false, 5), (1, false, 5), (2, false, 5), (3, false, 5), (4, false, 5), (5, true, 0), (6, false, 999), (7, false, 999), (8, false, 999), (9, false, 999), (10, false, 999), (11, false, 999), (12, false, 999)] (by kernel_rfl) (by kernel_rfl) ?_
    iterate 5 (refine wpCan_read rfl rfl (fun K hK => ?_); go_simp; refine hK _ ?_; clear hK K)
    refine wpCan_eff rfl ?_
    refine wpList_do rfl (fun K hK => ?_)
    go_simp
    refine (rGet_ok t k (HS1.out.drew.own 2 rfl).rd).mono ?_
    rw [HG.out]
    rintro e2 w2 ⟨rfl, hk2⟩
    have HS2 := Lib.hid (HS1.out.drew.kept hk2)
    clear hk2 y0 y1 y2 HS1 b0 b1 b2 b3 bf z0 z1 z2 z3 zf
    refine hK _ _ ?_
    clear hK K
    refine wpList_nil ?_
    refine And.intro ?_ ?_
    · go_simp
    iterate 7 (refine wpCan_read rfl rfl (fun K hK => ?_); go_simp; refine hK _ ?_; clear hK K)
    refine wpCan_nil ?_
    rcases atN_cases L t k with ⟨ha, hfn⟩ | ⟨i, pi, ha, hi, hp, hfn⟩
    · have HA := Lib.hid ha
      clear ha hfn
      have HD := Lib.hid (HU.out.trans (by rw [HGO.out, HA.out]; rfl) : rRst cs L t r (some ⟨rg, rog, none⟩) r.length rc num = (L, 61))
      go_upto_region 5 with fail
      obtain ⟨b0, b1, b2, b3, bf⟩ := cells4 (HS2.out.blk 1 rfl)
      obtain ⟨z0, z1, z2, z3, zf⟩ := cells4 (HS2.out.blk 0 rfl)
      obtain ⟨y0, y1, y2⟩ := key0_cells (HR.out.rd HS2.out) HQ.out
      refine wp_region_canon [(0, false, 7), (1, false, 7), (2, false, 7), (3, false, 7), (4, false, 7), (5, false, 7), (6, false, 7), (7, true, 0), (8, false, 999), (9, false, 999)] (by kernel_rfl) (by kernel_rfl) ?_
      iterate 2 (refine wpCan_read rfl rfl (fun K hK => ?_); go_simp; refine hK _ ?_; clear hK K)
      first | (refine wpCan_no rfl rfl ?_; simp only [Act.put, List.setIfInBounds_toArray, List.set_cons_succ, List.set_cons_zero, List.getElem_toArray, List.getElem_cons_succ, List.getElem_cons_zero]) | (refine wpCan_yes rfl rfl (fun K hK => ?_); go_simp; refine hK _ ?_; clear hK K)
      first | (refine wpCan_no rfl rfl ?_; simp only [Act.put, List.setIfInBounds_toArray, List.set_cons_succ, List.set_cons_zero, List.getElem_toArray, List.getElem_cons_succ, List.getElem_cons_zero]) | (refine wpCan_yes rfl rfl (fun K hK => ?_); go_simp; refine hK _ ?_; clear hK K)
      first | (refine wpCan_no rfl rfl ?_; simp only [Act.put, List.setIfInBounds_toArray, List.set_cons_succ, List.set_cons_zero, List.getElem_toArray, List.getElem_cons_succ, List.getElem_cons_zero]) | (refine wpCan_yes rfl rfl (fun K hK => ?_); go_simp; refine hK _ ?_; clear hK K)
      first | (refine wpCan_no rfl rfl ?_; simp only [Act.put, List.setIfInBounds_toArray, List.set_cons_succ, List.set_cons_zero, List.getElem_toArray, List.getElem_cons_succ, List.getElem_cons_zero]) | (refine wpCan_yes rfl rfl (fun K hK => ?_); go_simp; refine hK _ ?_; clear hK K)
      first | (refine wpCan_no rfl rfl ?_; simp only [Act.put, List.setIfInBounds_toArray, List.set_cons_succ, List.set_cons_zero, List.getElem_toArray, List.getElem_cons_succ, List.getElem_cons_zero]) | (refine wpCan_yes rfl rfl (fun K hK => ?_); go_simp; refine hK _ ?_; clear hK K)
      refine wpCan_eff rfl ?_
      refine wpList_do rfl (fun K hK => ?_)
      go_simp
      refine (rAt_ok t k (HS2.out.drew.own 2 rfl).rd).mono ?_
      rw [HA.out]
      rintro e3 w3 ⟨rfl, hk3⟩
      have HS3 := Lib.hid (HS2.out.drew.kept hk3)
      clear hk3 y0 y1 y2 HS2 b0 b1 b2 b3 bf z0 z1 z2 z3 zf
      obtain ⟨b0, b1, b2, b3, bf⟩ := cells4 (HS3.out.blk 1 rfl)
      obtain ⟨z0, z1, z2, z3, zf⟩ := cells4 (HS3.out.blk 0 rfl)
      obtain ⟨y0, y1, y2⟩ := key0_cells (HR.out.rd HS3.out) HQ.out
      refine hK _ _ ?_
      clear hK K
      refine wpList_nil ?_
      refine And.intro ?_ ?_
      · go_simp
      first | (refine wpCan_no rfl rfl ?_; simp only [Act.put, List.setIfInBounds_toArray, List.set_cons_succ, List.set_cons_zero, List.getElem_toArray, List.getElem_cons_succ, List.getElem_cons_zero]) | (refine wpCan_yes rfl rfl (fun K hK => ?_); go_simp; refine hK _ ?_; clear hK K)
      iterate 1 (refine wpCan_read rfl rfl (fun K hK => ?_); go_simp; refine hK _ ?_; clear hK K)
      refine wpCan_nil ?_
      have HE := Lib.hid (Sat.set4 HS3.out (.slice ta cs.length tc) (.int .i64 room) (.slice la L.length lc) (.int .i64 last))
      go_wp2_with fail
      obtain ⟨e0, e1, e2, e3, _⟩ := cells4 (HE.out.blk 0 rfl)
      try simp only [Exit.inBlock, Exit.then]
      refine bodyPost_ret (results_rf2 rfl _ _ rfl e0 e1 e2 e3) rfl ?_
      rw [HD.out]
      exact ⟨_, rfl, HE.out.drop.drop⟩
    · have HA := Lib.hid ha
      have hni : ¬ ((i : Int) < 0) := by omega
      clear ha hfn hi hp
      have HD := Lib.hid (HU.out.trans (by rw [HGO.out, HA.out]; simp [hni]) : rRst cs L t r (some ⟨rg, rog, none⟩) r.length rc num = (withL L ⟨t, k, r, some ⟨rg, rog, none⟩, r.length, rc, num⟩, 0))
      go_upto_region 5 with fail
      obtain ⟨b0, b1, b2, b3, bf⟩ := cells4 (HS2.out.blk 1 rfl)
      obtain ⟨z0, z1, z2, z3, zf⟩ := cells4 (HS2.out.blk 0 rfl)
      obtain ⟨y0, y1, y2⟩ := key0_cells (HR.out.rd HS2.out) HQ.out
      refine wp_region_canon [(0, false, 7), (1, false, 7), (2, false, 7), (3, false, 7), (4, false, 7), (5, false, 7), (6, false, 7), (7, true, 0), (8, false, 999), (9, false, 999)] (by kernel_rfl) (by kernel_rfl) ?_
      iterate 2 (refine wpCan_read rfl rfl (fun K hK => ?_); go_simp; refine hK _ ?_; clear hK K)
      first | (refine wpCan_no rfl rfl ?_; simp only [Act.put, List.setIfInBounds_toArray, List.set_cons_succ, List.set_cons_zero, List.getElem_toArray, List.getElem_cons_succ, List.getElem_cons_zero]) | (refine wpCan_yes rfl rfl (fun K hK => ?_); go_simp; refine hK _ ?_; clear hK K)
      first | (refine wpCan_no rfl rfl ?_; simp only [Act.put, List.setIfInBounds_toArray, List.set_cons_succ, List.set_cons_zero, List.getElem_toArray, List.getElem_cons_succ, List.getElem_cons_zero]) | (refine wpCan_yes rfl rfl (fun K hK => ?_); go_simp; refine hK _ ?_; clear hK K)
      first | (refine wpCan_no rfl rfl ?_; simp only [Act.put, List.setIfInBounds_toArray, List.set_cons_succ, List.set_cons_zero, List.getElem_toArray, List.getElem_cons_succ, List.getElem_cons_zero]) | (refine wpCan_yes rfl rfl (fun K hK => ?_); go_simp; refine hK _ ?_; clear hK K)
      first | (refine wpCan_no rfl rfl ?_; simp only [Act.put, List.setIfInBounds_toArray, List.set_cons_succ, List.set_cons_zero, List.getElem_toArray, List.getElem_cons_succ, List.getElem_cons_zero]) | (refine wpCan_yes rfl rfl (fun K hK => ?_); go_simp; refine hK _ ?_; clear hK K)
      first | (refine wpCan_no rfl rfl ?_; simp only [Act.put, List.setIfInBounds_toArray, List.set_cons_succ, List.set_cons_zero, List.getElem_toArray, List.getElem_cons_succ, List.getElem_cons_zero]) | (refine wpCan_yes rfl rfl (fun K hK => ?_); go_simp; refine hK _ ?_; clear hK K)
      refine wpCan_eff rfl ?_
      refine wpList_do rfl (fun K hK => ?_)
      go_simp
      refine (rAt_ok t k (HS2.out.drew.own 2 rfl).rd).mono ?_
      rw [HA.out]
      rintro e3 w3 ⟨rfl, hk3⟩
      have HS3 := Lib.hid (HS2.out.drew.kept hk3)
      clear hk3 y0 y1 y2 HS2 b0 b1 b2 b3 bf z0 z1 z2 z3 zf
      obtain ⟨b0, b1, b2, b3, bf⟩ := cells4 (HS3.out.blk 1 rfl)
      obtain ⟨z0, z1, z2, z3, zf⟩ := cells4 (HS3.out.blk 0 rfl)
      obtain ⟨y0, y1, y2⟩ := key0_cells (HR.out.rd HS3.out) HQ.out
      refine hK _ _ ?_
      clear hK K
      refine wpList_nil ?_
      refine And.intro ?_ ?_
      · go_simp
      first | (refine wpCan_no rfl rfl ?_; simp only [Act.put, List.setIfInBounds_toArray, List.set_cons_succ, List.set_cons_zero, List.getElem_toArray, List.getElem_cons_succ, List.getElem_cons_zero]) | (refine wpCan_yes rfl rfl (fun K hK => ?_); go_simp; refine hK _ ?_; clear hK K)
      iterate 1 (refine wpCan_read rfl rfl (fun K hK => ?_); go_simp; refine hK _ ?_; clear hK K)
      refine wpCan_nil ?_
      go_upto_region 7 with fail
      refine wp_region_canon [(0, false, 8), (1, false, 8), (2, false, 8), (3, false, 8), (4, false, 8), (5, false, 8), (6, false, 8), (7, false, 8), (8, true, 0), (9, true, 0), (10, false, 999)] (by kernel_rfl) (by kernel_rfl) ?_
      iterate 8 (refine wpCan_read rfl rfl (fun K hK => ?_); go_simp; refine hK _ ?_; clear hK K)
      refine wpCan_eff rfl ?_
      refine wpList_do rfl (fun K hK => ?_)
      go_simp
      refine (with_ok ⟨t, k, r, some ⟨rg, rog, none⟩, r.length, rc, num⟩ HKF.out HF.out.1 HTT.out HF.out.2.1 HF.out.2.2 (with_first HS3.out.drew)).mono ?_
      rintro e5 w5 ⟨v5, rfl, hs5⟩
      have hs5 := with_back hs5
      obtain ⟨o5, c5, rfl⟩ := (hs5.front 2 rfl).own_shape
      have HS5 := Lib.hid hs5
      have HE := Lib.hid (Sat.set4 hs5 (.slice ta cs.length tc) (.int .i64 room) (.slice o5 (withL L ⟨t, k, r, some ⟨rg, rog, none⟩, r.length, rc, num⟩).length c5) (.int .i64 last))
      clear hs5 HS3 b0 b1 b2 b3 bf z0 z1 z2 z3 zf y0 y1 y2
      obtain ⟨b0, b1, b2, b3, bf⟩ := cells4 (HS5.out.blk 1 rfl)
      obtain ⟨z0, z1, z2, z3, zf⟩ := cells4 (HS5.out.blk 0 rfl)
      refine hK _ _ ?_
      clear hK K
      refine wpList_nil ?_
      refine And.intro ?_ ?_
      · go_simp
      refine wpCan_eff rfl ?_
      refine wpList_plain rfl (fun K hK => ?_)
      go_simp
      refine hK _ _ ?_
      clear hK K
      refine wpList_nil ?_
      skip
      refine And.intro ?_ ?_
      · go_simp
      iterate 1 (refine wpCan_read rfl rfl (fun K hK => ?_); go_simp; refine hK _ ?_; clear hK K)
      refine wpCan_nil ?_
      go_wp2_with fail
      obtain ⟨e0, e1, e2, e3, _⟩ := cells4 (HE.out.blk 0 rfl)
      try simp only [Exit.inBlock, Exit.then]
      refine bodyPost_ret (results_rf2 rfl _ _ rfl e0 e1 e2 e3) rfl ?_
      rw [HD.out]
      exact ⟨_, rfl, HE.out.drop.drop⟩

set_option maxHeartbeats 8000000 in
theorem rRmv_ok {B w : World} {D : PH} {tv lv : Value} {cs : List (List Bool)} {room last : Int} {L : List Pl} {l : List HP} (t : Int) (k : Val) (hT : TabsD D tv cs) (hkf : k.fits) (hF : LOk L) (hcs : cs.length ≤ 100) (h : Sat B D w (plsP lv L :: l)) :
    Calls Try.prog 42 #[refV tv room lv last, .int .i64 t, k.v] w fun e w' => ∃ v', e = .returned (.tuple #[refV tv room v' last, .int .i64 (rRmv cs L t k).2]) ∧ Sat B D w' (plsP v' (rRmv cs L t k).1 :: l) := by
  obtain ⟨la, lc, rfl⟩ := h.own_shape
  obtain ⟨ta, tc, rfl⟩ := hT.shape
  obtain ⟨wa, hwa, hsa⟩ := with_start h #[.slice ta cs.length tc, .int .i64 room, .slice la L.length lc, .int .i64 last] #[.bool k.t, .int .i64 k.n, .string k.s] #[.slice none 0 0, .int .i64 0, .slice none 0 0, .int .i64 0] tRf tV tRf
  have hsa := key_last hsa
  have HS := Lib.hid hsa
  have HWA := Lib.hid hwa
  have HF := Lib.hid hF
  have HT := Lib.hid hT
  have HKF := Lib.hid hkf
  clear h hwa hsa hF hT hkf
  dsimp only [Val.v]
  go_enter Try.func42, Try.ntmps42
  go_upto_region 1 with (fail)
  rw [← HWA.out]
  clear HWA
  generalize w.heap.size + 1 + 1 = br at HS ⊢
  generalize w.heap.size + 1 = bk at HS ⊢
  generalize w.heap.size = bs at HS ⊢
  obtain ⟨b0, b1, b2, b3, bf⟩ := cells4 (HS.out.blk 1 rfl)
  obtain ⟨z0, z1, z2, z3, zf⟩ := cells4 (HS.out.blk 0 rfl)
  obtain ⟨x0, x1, x2, xf⟩ := cells3 (HS.out.blk 2 rfl)
  by_cases h0 : t < 0
  · have HD := Lib.hid (show rRmv cs L t k = (L, 1) by unfold rRmv; rw [if_neg (by simp; omega)])
    have HE := Lib.hid (Sat.set4 HS.out (.slice ta cs.length tc) (.int .i64 room) (.slice la L.length lc) (.int .i64 last))
    go_wp2_with fail
    obtain ⟨e0, e1, e2, e3, _⟩ := cells4 (HE.out.blk 0 rfl)
    try simp only [Exit.inBlock, Exit.then]
    refine bodyPost_ret (results_rf2 rfl _ _ rfl e0 e1 e2 e3) rfl ?_
    rw [HD.out]
    exact ⟨_, rfl, HE.out.drop.drop.drop⟩
  by_cases h2 : t ≥ (cs.length : Int)
  · have HD := Lib.hid (show rRmv cs L t k = (L, 1) by unfold rRmv; rw [if_neg (by simp; omega)])
    have HE := Lib.hid (Sat.set4 HS.out (.slice ta cs.length tc) (.int .i64 room) (.slice la L.length lc) (.int .i64 last))
    go_wp2_with fail
    obtain ⟨e0, e1, e2, e3, _⟩ := cells4 (HE.out.blk 0 rfl)
    try simp only [Exit.inBlock, Exit.then]
    refine bodyPost_ret (results_rf2 rfl _ _ rfl e0 e1 e2 e3) rfl ?_
    rw [HD.out]
    exact ⟨_, rfl, HE.out.drop.drop.drop⟩
  have HU := Lib.hid (show rRmv cs L t k = (if rgot L t k then (withL L ⟨t, k, [], none, 0, 0, 0⟩, 0) else (L, 61)) by unfold rRmv; rw [if_pos (by simp; omega)])
  rcases rgetV_is L t k with ⟨hg, xv, hx⟩ | ⟨hg, hx⟩
  · have HG := Lib.hid hx
    have HGO := Lib.hid hg
    clear hx hg
    have HD := Lib.hid (HU.out.trans (by rw [HGO.out]; rfl) : rRmv cs L t k = (withL L ⟨t, k, [], none, 0, 0, 0⟩, 0))
    have HTT := Lib.hid (show 0 ≤ t ∧ t ≤ 100 by omega)
    have HWW := Lib.hid (fun (W : World) (hW : Sat B D W _) => with_ok (ta := ta) (tn := cs.length) (tc := tc) (room := room) (last := last) (⟨t, k, [], none, 0, 0, 0⟩ : Pl) HKF.out HF.out.1 HTT.out HF.out.2.1 HF.out.2.2 (l := blk br #[.slice none 0 0, .int .i64 0, .slice none 0 0, .int .i64 0] tRf :: blk bs #[.slice ta cs.length tc, .int .i64 room, .slice la L.length lc, .int .i64 last] tRf :: blk bk #[.bool k.t, .int .i64 k.n, .string k.s] tV :: l) (lv := .slice la L.length lc) hW)
    go_upto_region 6 with (go_at_call 23; refine (rGet_ok t k (HS.out.own 3 rfl).rd).mono ?_; rw [HG.out]; rintro e2 w2 ⟨rfl, hk2⟩; have HS2 := Lib.hid (HS.out.kept hk2); clear hk2 b0 b1 b2 b3 bf z0 z1 z2 z3 zf x0 x1 x2 xf; obtain ⟨b0, b1, b2, b3, bf⟩ := cells4 (HS2.out.blk 1 rfl); obtain ⟨z0, z1, z2, z3, zf⟩ := cells4 (HS2.out.blk 0 rfl); obtain ⟨x0, x1, x2, xf⟩ := cells3 (HS2.out.blk 2 rfl))
    go_wp2_with (go_at_call 60; refine (HWW.out _ (with_first3 HS2.out)).mono ?_; rintro e5 w5 ⟨v5, rfl, hs5⟩; have hs5 := with_back3 hs5; obtain ⟨o5, c5, rfl⟩ := (hs5.front 3 rfl).own_shape; have HE := Lib.hid (Sat.set4 hs5 (.slice ta cs.length tc) (.int .i64 room) (.slice o5 (withL L ⟨t, k, [], none, 0, 0, 0⟩).length c5) (.int .i64 last)); clear HS2 b0 b1 b2 b3 bf z0 z1 z2 z3 zf x0 x1 x2 xf; obtain ⟨b0, b1, b2, b3, bf⟩ := cells4 (hs5.blk 1 rfl); obtain ⟨z0, z1, z2, z3, zf⟩ := cells4 (hs5.blk 0 rfl); obtain ⟨x0, x1, x2, xf⟩ := cells3 (hs5.blk 2 rfl); clear hs5)
    obtain ⟨e0, e1, e2, e3, _⟩ := cells4 (HE.out.blk 0 rfl)
    try simp only [Exit.inBlock, Exit.then]
    refine bodyPost_ret (results_rf2 rfl _ _ rfl e0 e1 e2 e3) rfl ?_
    rw [HD.out]
    exact ⟨_, rfl, HE.out.drop.drop.drop⟩
  · have HG := Lib.hid hx
    have HGO := Lib.hid hg
    clear hx hg
    have HD := Lib.hid (HU.out.trans (by rw [HGO.out]; rfl) : rRmv cs L t k = (L, 61))
    go_wp2_with (go_at_call 23; refine (rGet_ok t k (HS.out.own 3 rfl).rd).mono ?_; rw [HG.out]; rintro e2 w2 ⟨rfl, hk2⟩; have HS2 := Lib.hid (HS.out.kept hk2); clear hk2 b0 b1 b2 b3 bf z0 z1 z2 z3 zf x0 x1 x2 xf; obtain ⟨b0, b1, b2, b3, bf⟩ := cells4 (HS2.out.blk 1 rfl); obtain ⟨z0, z1, z2, z3, zf⟩ := cells4 (HS2.out.blk 0 rfl); obtain ⟨x0, x1, x2, xf⟩ := cells3 (HS2.out.blk 2 rfl); have HE := Lib.hid (Sat.set4 HS2.out (.slice ta cs.length tc) (.int .i64 room) (.slice la L.length lc) (.int .i64 last)))
    obtain ⟨e0, e1, e2, e3, _⟩ := cells4 (HE.out.blk 0 rfl)
    try simp only [Exit.inBlock, Exit.then]
    refine bodyPost_ret (results_rf2 rfl _ _ rfl e0 e1 e2 e3) rfl ?_
    rw [HD.out]
    exact ⟨_, rfl, HE.out.drop.drop.drop⟩
end Go.Proofs.Ytcbklkcpjldcjaa
