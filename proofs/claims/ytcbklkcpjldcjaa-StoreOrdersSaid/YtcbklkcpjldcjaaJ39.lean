/- The document's answer for the store (ratlineref06): Insert, Replace, Remove, Restore. -/
import Derived.Test.YtcbklkcpjldcjaaJ38
namespace Go.Proofs.Ytcbklkcpjldcjaa
open Go.ChangeShapes Go.WideShapes Go.ChangeAt Go.RowKit
set_option maxRecDepth 100000
set_option linter.unusedSimpArgs false

def rgot (L : List Pl) (t : Int) (k : Val) : Bool := match L.find? (atP t k) with
  | some p => !decide (p.rn = 0)
  | none => false
def rnum (L : List Pl) (t : Int) (k : Val) : Int := match L.find? (atP t k) with
  | some p => if p.rn = 0 then 0 else p.num
  | none => 0
theorem rgetV_is (L : List Pl) (t : Int) (k : Val) : (rgot L t k = true ∧ ∃ xv, rgetV L t k = .tuple #[xv, .int .i64 (rnum L t k), .bool true]) ∨ (rgot L t k = false ∧ rgetV L t k = .tuple #[.slice none 0 0, .int .i64 0, .bool false]) := by
  unfold rgot rgetV rnum
  cases L.find? (atP t k) with
  | none => exact .inr ⟨rfl, rfl⟩
  | some p =>
    by_cases h : p.rn = 0
    · exact .inr ⟨by simp [h], by simp [h]⟩
    · exact .inl ⟨by simp [h], p.hv, by simp [h]⟩
/-- a row of places as the answer may have it -/
def LOk (L : List Pl) : Prop := (∀ q ∈ L, q.k.fits) ∧ (∀ q ∈ L, 0 ≤ q.t ∧ q.t ≤ 100) ∧ L.length ≤ 1000
def rIns (cs : List (List Bool)) (room : Int) (L : List Pl) (last t : Int) (r : List Val) (ro : Option Addr) (rn rc : Nat) : List Pl × Int × Int × Int :=
  if fitsR cs t r then (if rgot L t (keyOf r) then (L, last, 0, 60) else if decide (atN L t (keyOf r) < 0) && decide (room ≤ (L.length : Int)) then (L, last, 0, 62) else (withL L ⟨t, keyOf r, r, ro, rn, rc, last + 1⟩, last + 1, last + 1, 0)) else (L, last, 0, 1)
def rRep (cs : List (List Bool)) (L : List Pl) (t : Int) (r : List Val) (ro : Option Addr) (rn rc : Nat) : List Pl × Int :=
  if fitsR cs t r then (if rgot L t (keyOf r) then (withL L ⟨t, keyOf r, r, ro, rn, rc, rnum L t (keyOf r)⟩, 0) else (L, 61)) else (L, 1)
def rRst (cs : List (List Bool)) (L : List Pl) (t : Int) (r : List Val) (ro : Option Addr) (rn rc : Nat) (num : Int) : List Pl × Int :=
  if fitsR cs t r then (if rgot L t (keyOf r) || decide (atN L t (keyOf r) < 0) then (L, 61) else (withL L ⟨t, keyOf r, r, ro, rn, rc, num⟩, 0)) else (L, 1)
def rRmv (cs : List (List Bool)) (L : List Pl) (t : Int) (k : Val) : List Pl × Int :=
  if decide (0 ≤ t) && decide (t < (cs.length : Int)) then (if rgot L t k then (withL L ⟨t, k, [], none, 0, 0, 0⟩, 0) else (L, 61)) else (L, 1)
theorem fitsR_key {cs : List (List Bool)} {t : Int} {r : List Val} (h : fitsR cs t r = true) : 1 ≤ r.length ∧ r[0]? = some (keyOf r) ∧ t < (cs.length : Int) ∧ (cs.length ≤ 100 → 0 ≤ t ∧ t ≤ 100) := by
  unfold fitsR at h
  simp only [Bool.and_eq_true, decide_eq_true_eq] at h
  have h1 := (fits_len h.2).1
  refine ⟨h1, ?_, h.1.2, fun hc => ⟨h.1.1, by omega⟩⟩
  unfold keyOf
  cases r with
  | nil => simp at h1
  | cons x r => rfl
theorem key0_cells {w : World} {g o N cap : Nat} {keys : List Val} {x : Val} (hrd : Rd w 3 (.slice (some ⟨g, o, none⟩) N cap) N (keys.flatMap Val.cells)) (hx : keys[0]? = some x) :
    w.cell? ⟨g, o, none⟩ = some (.bool x.t) ∧ w.cell? ⟨g, o + 1, none⟩ = some (.int .i64 x.n) ∧ w.cell? ⟨g, o + 2, none⟩ = some (.string x.s) := by
  have := key_cells hrd hx
  simpa only [Nat.zero_mul, Nat.add_zero] using this
section
variable {B w : World} {D : PH} {l : List HP}
theorem ref_start2 (h : Sat B D w l) (c1 c2 : Array Value) (t1 t2 : TypeId) : ∃ wa, wa = (w.alloc (.cells c1 t1)).alloc (.cells c2 t2) ∧ Sat B D wa (blk (w.heap.size + 1) c2 t2 :: blk w.heap.size c1 t1 :: l) := by
  refine ⟨_, rfl, ?_⟩
  have h1 := (h.alloc c1 t1).alloc c2 t2
  rw [World.size_alloc] at h1
  exact h1
theorem key_last {A C E : HP} (h : Sat B D w (A :: C :: E :: l)) : Sat B D w (A :: E :: C :: l) := h.perm ((List.Perm.swap _ _ _).cons _)
theorem with_first {A C E : HP} (h : Sat B D w (A :: C :: E :: l)) : Sat B D w (E :: A :: C :: l) := h.front 2 rfl
theorem with_back {A C E : HP} (h : Sat B D w (E :: A :: C :: l)) : Sat B D w (A :: C :: E :: l) := h.rot
theorem with_first3 {A C F E : HP} (h : Sat B D w (A :: C :: F :: E :: l)) : Sat B D w (E :: A :: C :: F :: l) := h.front 3 rfl
theorem with_back3 {A C F E : HP} (h : Sat B D w (E :: A :: C :: F :: l)) : Sat B D w (A :: C :: F :: E :: l) := h.perm ((List.perm_append_comm (l₁ := [E]) (l₂ := [A, C, F])).append_right l)
theorem ref_last {A : HP} {bs : Nat} {x0 x1 x2 x3 u : Value} (h : Sat B D w (A :: blk bs #[x0, x1, x2, x3] tRf :: l)) : Sat B D (w.setCell ⟨bs, 3, none⟩ u) (A :: blk bs #[x0, x1, x2, u] tRf :: l) := (h.swap.set 3 u).swap
end

set_option maxHeartbeats 8000000 in
theorem rIns_ok {B w : World} {D : PH} {tv lv : Value} {cs : List (List Bool)} {room last : Int} {L : List Pl} {l : List HP} (t : Int) {ro : Option Addr} {rn rc : Nat} {r : List Val} (hT : TabsD D tv cs) (hr : RowD D (.slice ro rn rc) r) (hrf : ∀ v ∈ r, v.fits) (hF : LOk L) (hcs : cs.length ≤ 100) (hlast : 0 ≤ last ∧ last ≤ 100000) (h : Sat B D w (plsP lv L :: l)) :
    Calls Try.prog 40 #[refV tv room lv last, .int .i64 t, .slice ro rn rc] w fun e w' => ∃ v', e = .returned (.tuple #[refV tv room v' (rIns cs room L last t r ro rn rc).2.1, .int .i64 (rIns cs room L last t r ro rn rc).2.2.1, .int .i64 (rIns cs room L last t r ro rn rc).2.2.2]) ∧ Sat B D w' (plsP v' (rIns cs room L last t r ro rn rc).1 :: l) := by
  obtain ⟨la, lc, rfl⟩ := h.own_shape
  obtain ⟨ta, tc, rfl⟩ := hT.shape
  obtain rfl : rn = r.length := by obtain ⟨_, _, hrv⟩ := hr.shape; cases hrv; rfl
  obtain ⟨wa, hwa, hsa⟩ := ref_start2 h #[.slice ta cs.length tc, .int .i64 room, .slice la L.length lc, .int .i64 last] #[.slice none 0 0, .int .i64 0, .slice none 0 0, .int .i64 0] tRf tRf
  have HS := Lib.hid hsa
  have HWA := Lib.hid hwa
  have HF := Lib.hid hF
  have HT := Lib.hid hT
  have HR := Lib.hid hr
  have HRF := Lib.hid hrf
  have HFT := Lib.hid (rFitsS_ok (lo := la) (ln := L.length) (lc := lc) (room := room) (last := last) t (hT.rd hsa) (hr.rd hsa))
  clear h hwa hsa hF hT hr hrf
  go_enter Try.func40, Try.ntmps40
  go_upto_region 1 with (fail)
  rw [← HWA.out]
  clear HWA
  generalize w.heap.size + 1 = br at HS ⊢
  generalize w.heap.size = bs at HS ⊢
  obtain ⟨b0, b1, b2, b3, bf⟩ := cells4 (HS.out.blk 1 rfl)
  obtain ⟨z0, z1, z2, z3, zf⟩ := cells4 (HS.out.blk 0 rfl)
  cases hf : fitsR cs t r
  · have HFF := Lib.hid hf
    have HD := Lib.hid (show rIns cs room L last t r ro r.length rc = (L, last, 0, 1) by unfold rIns; rw [hf]; rfl)
    clear hf
    go_wp2_with (go_at_call 59; refine HFT.out.mono ?_; rw [HFF.out]; rintro e1 w1 ⟨rfl, hk1⟩; have hs1 := HS.out.kept hk1; have HE := Lib.hid (Sat.set4 hs1 (.slice ta cs.length tc) (.int .i64 room) (.slice la L.length lc) (.int .i64 last)); clear hk1 b0 b1 b2 b3 bf z0 z1 z2 z3 zf; obtain ⟨b0, b1, b2, b3, bf⟩ := cells4 (hs1.blk 1 rfl); obtain ⟨z0, z1, z2, z3, zf⟩ := cells4 (hs1.blk 0 rfl); clear hs1)
    obtain ⟨e0, e1, e2, e3, _⟩ := cells4 (HE.out.blk 0 rfl)
    try simp only [Exit.inBlock, Exit.then]
    refine bodyPost_ret (results_rf3 rfl _ _ rfl e0 e1 e2 e3) rfl ?_
    rw [HD.out]
    exact ⟨_, rfl, HE.out.drop.drop⟩
  obtain ⟨q1, q2, q3, q4⟩ := fitsR_key hf
  have HFF := Lib.hid hf
  have HU := Lib.hid (show rIns cs room L last t r ro r.length rc = (if rgot L t (keyOf r) then (L, last, 0, 60) else if decide (atN L t (keyOf r) < 0) && decide (room ≤ (L.length : Int)) then (L, last, 0, 62) else (withL L ⟨t, keyOf r, r, ro, r.length, rc, last + 1⟩, last + 1, last + 1, 0)) by unfold rIns; rw [hf]; rfl)
  have hlen2 : 0 < r.length := by omega
  have hlen : (0 : Int) < (r.length : Int) := by omega
  obtain ⟨rg, rog, rfl⟩ := row_src (HR.out.rd HS.out) q2 rfl
  have HQ := Lib.hid q2
  have HKF := Lib.hid (HRF.out _ (List.mem_of_getElem? q2))
  have HTT := Lib.hid (q4 hcs)
  clear hf q2 q3 q4
  generalize hkk : keyOf r = k at *
  go_upto_region 4 with (go_at_call 59; refine HFT.out.mono ?_; clear HFT; rw [HFF.out]; rintro e1 w1 ⟨rfl, hk1⟩; have HS1 := Lib.hid (HS.out.kept hk1); clear hk1 HS b0 b1 b2 b3 bf z0 z1 z2 z3 zf; obtain ⟨b0, b1, b2, b3, bf⟩ := cells4 (HS1.out.blk 1 rfl); obtain ⟨z0, z1, z2, z3, zf⟩ := cells4 (HS1.out.blk 0 rfl); obtain ⟨y0, y1, y2⟩ := key0_cells (HR.out.rd HS1.out) HQ.out)
  rcases rgetV_is L t k with ⟨hg, xv, hx⟩ | ⟨hg, hx⟩
  · skip
    have HG := Lib.hid hx
    have HGO := Lib.hid hg
    clear hx hg
    have HD := Lib.hid (HU.out.trans (by rw [HGO.out]; rfl) : rIns cs room L last t r (some ⟨rg, rog, none⟩) r.length rc = (L, last, 0, 60))
    refine wp_region_canon [(0, false, 5), (1, false, 5), (2, false, 5), (3, false, 5), (4, false, 5), (5, true, 0), (6, false, 999), (7, false, 999), (8, false, 999), (9, false, 999), (10, false, 999), (11, false, 999), (12, false, 999)] (by kernel_rfl) (by kernel_rfl) ?_
    iterate 5 (refine wpCan_read rfl rfl (fun K hK => ?_); go_simp; refine hK _ ?_; clear hK K)
    refine wpCan_eff rfl ?_
    refine wpList_do rfl (fun K hK => ?_)
    go_simp
    refine (rGet_ok t k (HS1.out.drew.own 2 rfl).rd).mono ?_
    rw [HG.out]
    rintro e2 w2 ⟨rfl, hk2⟩
    have HS2 := Lib.hid (HS1.out.drew.kept hk2)
    clear hk2 y0 y1 y2 HS1 b0 b1 b2 b3 bf z0 z1 z2 z3 zf
    refine hK _ _ ?_
    clear hK K
    refine wpList_nil ?_
    refine And.intro ?_ ?_
    · go_simp
    iterate 7 (refine wpCan_read rfl rfl (fun K hK => ?_); go_simp; refine hK _ ?_; clear hK K)
    refine wpCan_nil ?_
    have HE := Lib.hid (Sat.set4 HS2.out (.slice ta cs.length tc) (.int .i64 room) (.slice la L.length lc) (.int .i64 last))
    obtain ⟨b0, b1, b2, b3, bf⟩ := cells4 (HS2.out.blk 1 rfl)
    obtain ⟨z0, z1, z2, z3, zf⟩ := cells4 (HS2.out.blk 0 rfl)
    go_wp2_with fail
    obtain ⟨e0, e1, e2, e3, _⟩ := cells4 (HE.out.blk 0 rfl)
    try simp only [Exit.inBlock, Exit.then]
    refine bodyPost_ret (results_rf3 rfl _ _ rfl e0 e1 e2 e3) rfl ?_
    rw [HD.out]
    exact ⟨_, rfl, HE.out.drop.drop⟩
  · have HG := Lib.hid hx
    have HGO := Lib.hid hg
    clear hx hg
    refine wp_region_canon [(0, false, 5), (1, false, 5), (2, false, 5), (3, false, 5), (4, false, 5), (5, true, 0), (6, false, 999), (7, false, 999), (8, false, 999), (9, false, 999), (10, false, 999), (11, false, 999), (12, false, 999)] (by kernel_rfl) (by kernel_rfl) ?_
    iterate 5 (refine wpCan_read rfl rfl (fun K hK => ?_); go_simp; refine hK _ ?_; clear hK K)
    refine wpCan_eff rfl ?_
    refine wpList_do rfl (fun K hK => ?_)
    go_simp
    refine (rGet_ok t k (HS1.out.drew.own 2 rfl).rd).mono ?_
    rw [HG.out]
    rintro e2 w2 ⟨rfl, hk2⟩
    have HS2 := Lib.hid (HS1.out.drew.kept hk2)
    clear hk2 y0 y1 y2 HS1 b0 b1 b2 b3 bf z0 z1 z2 z3 zf
    refine hK _ _ ?_
    clear hK K
    refine wpList_nil ?_
    refine And.intro ?_ ?_
    · go_simp
    iterate 7 (refine wpCan_read rfl rfl (fun K hK => ?_); go_simp; refine hK _ ?_; clear hK K)
    refine wpCan_nil ?_
    obtain ⟨b0, b1, b2, b3, bf⟩ := cells4 (HS2.out.blk 1 rfl)
    obtain ⟨z0, z1, z2, z3, zf⟩ := cells4 (HS2.out.blk 0 rfl)
    obtain ⟨y0, y1, y2⟩ := key0_cells (HR.out.rd HS2.out) HQ.out
    rcases atN_cases L t k with ⟨ha, hfn⟩ | ⟨i, pi, ha, hi, hp, hfn⟩
    · have HA := Lib.hid ha
      clear ha hfn
      have hwl : IntKind.i64.wrap (last + 1) = last + 1 := i64w _ (by omega) (by omega)
      by_cases hrm : room ≤ (L.length : Int)
      · have hge : (L.length : Int) ≥ room := hrm
        have HD := Lib.hid (HU.out.trans (by rw [HGO.out, HA.out]; simp [hrm]) : rIns cs room L last t r (some ⟨rg, rog, none⟩) r.length rc = (L, last, 0, 62))
        go_upto_region 7 with fail
        refine wp_region_canon [(0, false, 5), (1, false, 5), (2, false, 5), (3, false, 5), (4, false, 5), (5, true, 0), (6, false, 999), (7, false, 999), (8, false, 999), (9, false, 999), (10, false, 999), (11, false, 999), (12, false, 999), (13, false, 999), (14, false, 999)] (by kernel_rfl) (by kernel_rfl) ?_
        iterate 5 (refine wpCan_read rfl rfl (fun K hK => ?_); go_simp; refine hK _ ?_; clear hK K)
        refine wpCan_eff rfl ?_
        refine wpList_do rfl (fun K hK => ?_)
        go_simp
        refine (rAt_ok t k (HS2.out.drew.own 2 rfl).rd).mono ?_
        rw [HA.out]
        rintro e3 w3 ⟨rfl, hk3⟩
        have HS3 := Lib.hid (HS2.out.drew.kept hk3)
        clear hk3 y0 y1 y2 HS2 b0 b1 b2 b3 bf z0 z1 z2 z3 zf
        obtain ⟨b0, b1, b2, b3, bf⟩ := cells4 (HS3.out.blk 1 rfl)
        obtain ⟨z0, z1, z2, z3, zf⟩ := cells4 (HS3.out.blk 0 rfl)
        obtain ⟨y0, y1, y2⟩ := key0_cells (HR.out.rd HS3.out) HQ.out
        refine hK _ _ ?_
        clear hK K
        refine wpList_nil ?_
        refine And.intro ?_ ?_
        · go_simp
        iterate 2 (refine wpCan_read rfl rfl (fun K hK => ?_); go_simp; refine hK _ ?_; clear hK K)
        first | (refine wpCan_no rfl rfl ?_; simp only [Act.put, List.setIfInBounds_toArray, List.set_cons_succ, List.set_cons_zero, List.getElem_toArray, List.getElem_cons_succ, List.getElem_cons_zero]) | (refine wpCan_yes rfl rfl (fun K hK => ?_); go_simp; refine hK _ ?_; clear hK K)
        first | (refine wpCan_no rfl rfl ?_; simp only [Act.put, List.setIfInBounds_toArray, List.set_cons_succ, List.set_cons_zero, List.getElem_toArray, List.getElem_cons_succ, List.getElem_cons_zero]) | (refine wpCan_yes rfl rfl (fun K hK => ?_); go_simp; refine hK _ ?_; clear hK K)
        first | (refine wpCan_no rfl rfl ?_; simp only [Act.put, List.setIfInBounds_toArray, List.set_cons_succ, List.set_cons_zero, List.getElem_toArray, List.getElem_cons_succ, List.getElem_cons_zero]) | (refine wpCan_yes rfl rfl (fun K hK => ?_); go_simp; refine hK _ ?_; clear hK K)
        first | (refine wpCan_no rfl rfl ?_; simp only [Act.put, List.setIfInBounds_toArray, List.set_cons_succ, List.set_cons_zero, List.getElem_toArray, List.getElem_cons_succ, List.getElem_cons_zero]) | (refine wpCan_yes rfl rfl (fun K hK => ?_); go_simp; refine hK _ ?_; clear hK K)
        first | (refine wpCan_no rfl rfl ?_; simp only [Act.put, List.setIfInBounds_toArray, List.set_cons_succ, List.set_cons_zero, List.getElem_toArray, List.getElem_cons_succ, List.getElem_cons_zero]) | (refine wpCan_yes rfl rfl (fun K hK => ?_); go_simp; refine hK _ ?_; clear hK K)
        first | (refine wpCan_no rfl rfl ?_; simp only [Act.put, List.setIfInBounds_toArray, List.set_cons_succ, List.set_cons_zero, List.getElem_toArray, List.getElem_cons_succ, List.getElem_cons_zero]) | (refine wpCan_yes rfl rfl (fun K hK => ?_); go_simp; refine hK _ ?_; clear hK K)
        iterate 1 (refine wpCan_read rfl rfl (fun K hK => ?_); go_simp; refine hK _ ?_; clear hK K)
        refine wpCan_nil ?_
        have HE := Lib.hid (Sat.set4 HS3.out (.slice ta cs.length tc) (.int .i64 room) (.slice la L.length lc) (.int .i64 last))
        go_wp2_with fail
        obtain ⟨e0, e1, e2, e3, _⟩ := cells4 (HE.out.blk 0 rfl)
        try simp only [Exit.inBlock, Exit.then]
        refine bodyPost_ret (results_rf3 rfl _ _ rfl e0 e1 e2 e3) rfl ?_
        rw [HD.out]
        exact ⟨_, rfl, HE.out.drop.drop⟩
      · have hge : ¬ ((L.length : Int) ≥ room) := hrm
        have HD := Lib.hid (HU.out.trans (by rw [HGO.out, HA.out]; simp [hrm]) : rIns cs room L last t r (some ⟨rg, rog, none⟩) r.length rc = (withL L ⟨t, k, r, some ⟨rg, rog, none⟩, r.length, rc, last + 1⟩, last + 1, last + 1, 0))
        go_upto_region 7 with fail
        refine wp_region_canon [(0, false, 5), (1, false, 5), (2, false, 5), (3, false, 5), (4, false, 5), (5, true, 0), (6, false, 999), (7, false, 999), (8, false, 999), (9, false, 999), (10, false, 999), (11, false, 999), (12, false, 999), (13, false, 999), (14, false, 999)] (by kernel_rfl) (by kernel_rfl) ?_
        iterate 5 (refine wpCan_read rfl rfl (fun K hK => ?_); go_simp; refine hK _ ?_; clear hK K)
        refine wpCan_eff rfl ?_
        refine wpList_do rfl (fun K hK => ?_)
        go_simp
        refine (rAt_ok t k (HS2.out.drew.own 2 rfl).rd).mono ?_
        rw [HA.out]
        rintro e3 w3 ⟨rfl, hk3⟩
        have HS3 := Lib.hid (HS2.out.drew.kept hk3)
        clear hk3 y0 y1 y2 HS2 b0 b1 b2 b3 bf z0 z1 z2 z3 zf
        obtain ⟨b0, b1, b2, b3, bf⟩ := cells4 (HS3.out.blk 1 rfl)
        obtain ⟨z0, z1, z2, z3, zf⟩ := cells4 (HS3.out.blk 0 rfl)
        obtain ⟨y0, y1, y2⟩ := key0_cells (HR.out.rd HS3.out) HQ.out
        refine hK _ _ ?_
        clear hK K
        refine wpList_nil ?_
        refine And.intro ?_ ?_
        · go_simp
        iterate 2 (refine wpCan_read rfl rfl (fun K hK => ?_); go_simp; refine hK _ ?_; clear hK K)
        first | (refine wpCan_no rfl rfl ?_; simp only [Act.put, List.setIfInBounds_toArray, List.set_cons_succ, List.set_cons_zero, List.getElem_toArray, List.getElem_cons_succ, List.getElem_cons_zero]) | (refine wpCan_yes rfl rfl (fun K hK => ?_); go_simp; refine hK _ ?_; clear hK K)
        first | (refine wpCan_no rfl rfl ?_; simp only [Act.put, List.setIfInBounds_toArray, List.set_cons_succ, List.set_cons_zero, List.getElem_toArray, List.getElem_cons_succ, List.getElem_cons_zero]) | (refine wpCan_yes rfl rfl (fun K hK => ?_); go_simp; refine hK _ ?_; clear hK K)
        first | (refine wpCan_no rfl rfl ?_; simp only [Act.put, List.setIfInBounds_toArray, List.set_cons_succ, List.set_cons_zero, List.getElem_toArray, List.getElem_cons_succ, List.getElem_cons_zero]) | (refine wpCan_yes rfl rfl (fun K hK => ?_); go_simp; refine hK _ ?_; clear hK K)
        first | (refine wpCan_no rfl rfl ?_; simp only [Act.put, List.setIfInBounds_toArray, List.set_cons_succ, List.set_cons_zero, List.getElem_toArray, List.getElem_cons_succ, List.getElem_cons_zero]) | (refine wpCan_yes rfl rfl (fun K hK => ?_); go_simp; refine hK _ ?_; clear hK K)
        first | (refine wpCan_no rfl rfl ?_; simp only [Act.put, List.setIfInBounds_toArray, List.set_cons_succ, List.set_cons_zero, List.getElem_toArray, List.getElem_cons_succ, List.getElem_cons_zero]) | (refine wpCan_yes rfl rfl (fun K hK => ?_); go_simp; refine hK _ ?_; clear hK K)
        first | (refine wpCan_no rfl rfl ?_; simp only [Act.put, List.setIfInBounds_toArray, List.set_cons_succ, List.set_cons_zero, List.getElem_toArray, List.getElem_cons_succ, List.getElem_cons_zero]) | (refine wpCan_yes rfl rfl (fun K hK => ?_); go_simp; refine hK _ ?_; clear hK K)
        iterate 1 (refine wpCan_read rfl rfl (fun K hK => ?_); go_simp; refine hK _ ?_; clear hK K)
        refine wpCan_nil ?_
        have HS4 := Lib.hid (ref_last (u := .int .i64 (last + 1)) HS3.out)
        clear HS3
        go_upto_region 10 with fail
        revert HS4
        generalize World.setCell _ ⟨bs, 3, none⟩ _ = W4
        intro HS4
        clear y0 y1 y2 b0 b1 b2 b3 bf z0 z1 z2 z3 zf
        obtain ⟨b0, b1, b2, b3, bf⟩ := cells4 (HS4.out.blk 1 rfl)
        obtain ⟨z0, z1, z2, z3, zf⟩ := cells4 (HS4.out.blk 0 rfl)
        obtain ⟨y0, y1, y2⟩ := key0_cells (HR.out.rd HS4.out) HQ.out
        refine wp_region_canon [(0, false, 9), (1, false, 9), (2, false, 9), (3, false, 9), (4, false, 9), (5, false, 9), (6, false, 9), (7, false, 9), (8, false, 9), (10, false, 999), (11, false, 999), (9, true, 0), (12, true, 0), (13, false, 999), (14, false, 999)] (by kernel_rfl) (by kernel_rfl) ?_
        iterate 11 (refine wpCan_read rfl rfl (fun K hK => ?_); go_simp; refine hK _ ?_; clear hK K)
        refine wpCan_eff rfl ?_
        refine wpList_do rfl (fun K hK => ?_)
        go_simp
        refine (with_ok ⟨t, k, r, some ⟨rg, rog, none⟩, r.length, rc, last + 1⟩ HKF.out HF.out.1 HTT.out HF.out.2.1 HF.out.2.2 (with_first HS4.out.drew)).mono ?_
        rintro e5 w5 ⟨v5, rfl, hs5⟩
        have hs5 := with_back hs5
        obtain ⟨o5, c5, rfl⟩ := (hs5.front 2 rfl).own_shape
        have HS5 := Lib.hid hs5
        have HE := Lib.hid (Sat.set4 hs5 (.slice ta cs.length tc) (.int .i64 room) (.slice o5 (withL L ⟨t, k, r, some ⟨rg, rog, none⟩, r.length, rc, last + 1⟩).length c5) (.int .i64 (last + 1)))
        clear hs5 HS4 b0 b1 b2 b3 bf z0 z1 z2 z3 zf y0 y1 y2
        obtain ⟨b0, b1, b2, b3, bf⟩ := cells4 (HS5.out.blk 1 rfl)
        obtain ⟨z0, z1, z2, z3, zf⟩ := cells4 (HS5.out.blk 0 rfl)
        refine hK _ _ ?_
        clear hK K
        refine wpList_nil ?_
        refine And.intro ?_ ?_
        · go_simp
        refine wpCan_eff rfl ?_
        refine wpList_plain rfl (fun K hK => ?_)
        go_simp
        refine hK _ _ ?_
        clear hK K
        refine wpList_nil ?_
        obtain ⟨b0, b1, b2, b3, bf⟩ := cells4 (HE.out.blk 1 rfl)
        refine And.intro ?_ ?_
        · go_simp
        iterate 2 (refine wpCan_read rfl rfl (fun K hK => ?_); go_simp; refine hK _ ?_; clear hK K)
        refine wpCan_nil ?_
        go_wp2_with fail
        obtain ⟨e0, e1, e2, e3, _⟩ := cells4 (HE.out.blk 0 rfl)
        try simp only [Exit.inBlock, Exit.then]
        refine bodyPost_ret (results_rf3 rfl _ _ rfl e0 e1 e2 e3) rfl ?_
        rw [HD.out]
        exact ⟨_, rfl, HE.out.drop.drop⟩
    · have HA := Lib.hid ha
      have hni : ¬ ((i : Int) < 0) := by omega
      clear ha hfn hi hp
      have hwl : IntKind.i64.wrap (last + 1) = last + 1 := i64w _ (by omega) (by omega)
      have HD := Lib.hid (HU.out.trans (by rw [HGO.out, HA.out]; simp [hni]) : rIns cs room L last t r (some ⟨rg, rog, none⟩) r.length rc = (withL L ⟨t, k, r, some ⟨rg, rog, none⟩, r.length, rc, last + 1⟩, last + 1, last + 1, 0))
      go_upto_region 7 with fail
      refine wp_region_canon [(0, false, 5), (1, false, 5), (2, false, 5), (3, false, 5), (4, false, 5), (5, true, 0), (6, false, 999), (7, false, 999), (8, false, 999), (9, false, 999), (10, false, 999), (11, false, 999), (12, false, 999), (13, false, 999), (14, false, 999)] (by kernel_rfl) (by kernel_rfl) ?_
      iterate 5 (refine wpCan_read rfl rfl (fun K hK => ?_); go_simp; refine hK _ ?_; clear hK K)
      refine wpCan_eff rfl ?_
      refine wpList_do rfl (fun K hK => ?_)
      go_simp
      refine (rAt_ok t k (HS2.out.drew.own 2 rfl).rd).mono ?_
      rw [HA.out]
      rintro e3 w3 ⟨rfl, hk3⟩
      have HS3 := Lib.hid (HS2.out.drew.kept hk3)
      clear hk3 y0 y1 y2 HS2 b0 b1 b2 b3 bf z0 z1 z2 z3 zf
      obtain ⟨b0, b1, b2, b3, bf⟩ := cells4 (HS3.out.blk 1 rfl)
      obtain ⟨z0, z1, z2, z3, zf⟩ := cells4 (HS3.out.blk 0 rfl)
      obtain ⟨y0, y1, y2⟩ := key0_cells (HR.out.rd HS3.out) HQ.out
      refine hK _ _ ?_
      clear hK K
      refine wpList_nil ?_
      refine And.intro ?_ ?_
      · go_simp
      iterate 2 (refine wpCan_read rfl rfl (fun K hK => ?_); go_simp; refine hK _ ?_; clear hK K)
      first | (refine wpCan_no rfl rfl ?_; simp only [Act.put, List.setIfInBounds_toArray, List.set_cons_succ, List.set_cons_zero, List.getElem_toArray, List.getElem_cons_succ, List.getElem_cons_zero]) | (refine wpCan_yes rfl rfl (fun K hK => ?_); go_simp; refine hK _ ?_; clear hK K)
      first | (refine wpCan_no rfl rfl ?_; simp only [Act.put, List.setIfInBounds_toArray, List.set_cons_succ, List.set_cons_zero, List.getElem_toArray, List.getElem_cons_succ, List.getElem_cons_zero]) | (refine wpCan_yes rfl rfl (fun K hK => ?_); go_simp; refine hK _ ?_; clear hK K)
      first | (refine wpCan_no rfl rfl ?_; simp only [Act.put, List.setIfInBounds_toArray, List.set_cons_succ, List.set_cons_zero, List.getElem_toArray, List.getElem_cons_succ, List.getElem_cons_zero]) | (refine wpCan_yes rfl rfl (fun K hK => ?_); go_simp; refine hK _ ?_; clear hK K)
      first | (refine wpCan_no rfl rfl ?_; simp only [Act.put, List.setIfInBounds_toArray, List.set_cons_succ, List.set_cons_zero, List.getElem_toArray, List.getElem_cons_succ, List.getElem_cons_zero]) | (refine wpCan_yes rfl rfl (fun K hK => ?_); go_simp; refine hK _ ?_; clear hK K)
      first | (refine wpCan_no rfl rfl ?_; simp only [Act.put, List.setIfInBounds_toArray, List.set_cons_succ, List.set_cons_zero, List.getElem_toArray, List.getElem_cons_succ, List.getElem_cons_zero]) | (refine wpCan_yes rfl rfl (fun K hK => ?_); go_simp; refine hK _ ?_; clear hK K)
      first | (refine wpCan_no rfl rfl ?_; simp only [Act.put, List.setIfInBounds_toArray, List.set_cons_succ, List.set_cons_zero, List.getElem_toArray, List.getElem_cons_succ, List.getElem_cons_zero]) | (refine wpCan_yes rfl rfl (fun K hK => ?_); go_simp; refine hK _ ?_; clear hK K)
      iterate 1 (refine wpCan_read rfl rfl (fun K hK => ?_); go_simp; refine hK _ ?_; clear hK K)
      refine wpCan_nil ?_
      have HS4 := Lib.hid (ref_last (u := .int .i64 (last + 1)) HS3.out)
      clear HS3
      go_upto_region 10 with fail
      revert HS4
      generalize World.setCell _ ⟨bs, 3, none⟩ _ = W4
      intro HS4
      clear y0 y1 y2 b0 b1 b2 b3 bf z0 z1 z2 z3 zf
      obtain ⟨b0, b1, b2, b3, bf⟩ := cells4 (HS4.out.blk 1 rfl)
      obtain ⟨z0, z1, z2, z3, zf⟩ := cells4 (HS4.out.blk 0 rfl)
      obtain ⟨y0, y1, y2⟩ := key0_cells (HR.out.rd HS4.out) HQ.out
      refine wp_region_canon [(0, false, 9), (1, false, 9), (2, false, 9), (3, false, 9), (4, false, 9), (5, false, 9), (6, false, 9), (7, false, 9), (8, false, 9), (10, false, 999), (11, false, 999), (9, true, 0), (12, true, 0), (13, false, 999), (14, false, 999)] (by kernel_rfl) (by kernel_rfl) ?_
      iterate 11 (refine wpCan_read rfl rfl (fun K hK => ?_); go_simp; refine hK _ ?_; clear hK K)
      refine wpCan_eff rfl ?_
      refine wpList_do rfl (fun K hK => ?_)
      go_simp
      refine (with_ok ⟨t, k, r, some ⟨rg, rog, none⟩, r.length, rc, last + 1⟩ HKF.out HF.out.1 HTT.out HF.out.2.1 HF.out.2.2 (with_first HS4.out.drew)).mono ?_
      rintro e5 w5 ⟨v5, rfl, hs5⟩
      have hs5 := with_back hs5
      obtain ⟨o5, c5, rfl⟩ := (hs5.front 2 rfl).own_shape
      have HS5 := Lib.hid hs5
      have HE := Lib.hid (Sat.set4 hs5 (.slice ta cs.length tc) (.int .i64 room) (.slice o5 (withL L ⟨t, k, r, some ⟨rg, rog, none⟩, r.length, rc, last + 1⟩).length c5) (.int .i64 (last + 1)))
      clear hs5 HS4 b0 b1 b2 b3 bf z0 z1 z2 z3 zf y0 y1 y2
      obtain ⟨b0, b1, b2, b3, bf⟩ := cells4 (HS5.out.blk 1 rfl)
      obtain ⟨z0, z1, z2, z3, zf⟩ := cells4 (HS5.out.blk 0 rfl)
      refine hK _ _ ?_
      clear hK K
      refine wpList_nil ?_
      refine And.intro ?_ ?_
      · go_simp
      refine wpCan_eff rfl ?_
      refine wpList_plain rfl (fun K hK => ?_)
      go_simp
      refine hK _ _ ?_
      clear hK K
      refine wpList_nil ?_
      obtain ⟨b0, b1, b2, b3, bf⟩ := cells4 (HE.out.blk 1 rfl)
      refine And.intro ?_ ?_
      · go_simp
      iterate 2 (refine wpCan_read rfl rfl (fun K hK => ?_); go_simp; refine hK _ ?_; clear hK K)
      refine wpCan_nil ?_
      go_wp2_with fail
      obtain ⟨e0, e1, e2, e3, _⟩ := cells4 (HE.out.blk 0 rfl)
      try simp only [Exit.inBlock, Exit.then]
      refine bodyPost_ret (results_rf3 rfl _ _ rfl e0 e1 e2 e3) rfl ?_
      rw [HD.out]
      exact ⟨_, rfl, HE.out.drop.drop⟩
end Go.Proofs.Ytcbklkcpjldcjaa
