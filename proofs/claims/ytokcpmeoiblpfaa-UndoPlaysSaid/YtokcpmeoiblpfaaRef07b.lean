/- The reference of the undo log: contract of Push. -/
import Derived.Test.YtokcpmeoiblpfaaRef07
import Derived.Deep.Cut
namespace Go.Proofs.Ytokcpmeoiblpfaa
open Go.ChangeShapes Go.WideShapes Go.ChangeAt Go.RowKit
set_option maxRecDepth 100000
set_option linter.unusedSimpArgs false

set_option maxHeartbeats 1000000 in
theorem pushR_full {B w : World} {D : PH} {l : List HP} {lv sv mv : Value} {m : LogM} {ps : List EA} (e : Ent) (hr : m.room ≤ ps.length) (h : RefAt D lv sv mv m ps) (hs : Sat B D w l) :
    Calls Try.prog 22 #[.agg #[.int .i64 m.room, lv, sv, mv], .agg e.cells.toArray] w fun e w' => ∃ cs, e = .returned (.tuple #[.agg cs, .int .i64 62]) ∧ TellsRef B D l m.room m ps cs w' := by
  have HR := Lib.hid h
  obtain ⟨es, h1, h2, h3, h4⟩ := h
  rw [← h2.1] at hr
  obtain ⟨lo, lc, rfl⟩ := h1.shape
  obtain ⟨so, sc, rfl⟩ := h3.shape
  obtain ⟨mo, mc, rfl⟩ := h4.shape
  have HS := Lib.hid hs
  clear h1 h2 h3 h4 hs
  unfold Ent.cells
  go_enter Try.func22, Try.ntmps22
  go_wp2_with fail
  have h3 := ((HS.out.alloc #[.int .i64 m.room, .slice lo es.length lc, .slice so 4 sc, .slice mo m.met.length mc] tRef).alloc #[.int .i64 e.t, .bool e.k.t, .int .i64 e.k.n, .string e.k.s, e.was] tEnt).alloc #[.int .i64 m.room, .slice lo es.length lc, .slice so 4 sc, .slice mo m.met.length mc] tRef
  refine bodyPost_ret (v := .tuple #[.agg #[.int .i64 m.room, .slice lo es.length lc, .slice so 4 sc, .slice mo m.met.length mc], .int .i64 62]) (by simp [results, Try.results22, go_sem]) rfl ⟨_, rfl, _, _, _, D, rfl, PH.le.refl _, HR.out, ?_⟩
  exact h3.drop.drop.drop

theorem not_mem_of {p : Spot} {l : List Spot} {k : Nat} (h : ∀ j, j < k → l[j]? ≠ some p) (hk : l.length ≤ k) : p ∉ l := fun hp => by
  obtain ⟨j, hj⟩ := List.getElem?_of_mem hp
  exact h j (Nat.lt_of_lt_of_le (List.getElem?_eq_some_iff.1 hj).1 hk) hj

set_option maxHeartbeats 4000000 in
theorem pushR_ok {B w : World} {D : PH} {l : List HP} {lv sv mv : Value} {m : LogM} {ps : List EA} (e : Ent) (a : EA) (ha : EntA D e a) (hr : ps.length < m.room) (h60 : m.room ≤ 60) (hmet : m.met.length ≤ 1000) (h : RefAt D lv sv mv m ps) (hs : Sat B D w l) :
    Calls Try.prog 22 #[.agg #[.int .i64 m.room, lv, sv, mv], .agg e.cells.toArray] w fun e' w' => ∃ cs, e' = .returned (.tuple #[.agg cs, .int .i64 0]) ∧ TellsRef B D l m.room { m with met := addMet m.met ⟨e.t, e.k⟩ } (ps ++ [a]) cs w' := by
  obtain ⟨es, h1, h2, h3, h4⟩ := h
  rw [← h2.1] at hr
  obtain ⟨lo, lc, rfl⟩ := h1.shape
  obtain ⟨so, sc, rfl⟩ := h3.shape
  obtain ⟨mo, mc, rfl⟩ := h4.shape
  obtain ⟨et, ek, ew⟩ := e
  have hew := ha.2.2.oneV
  have h0 := ((hs.alloc #[.int .i64 m.room, .slice lo es.length lc, .slice so 4 sc, .slice mo m.met.length mc] tRef).alloc #[.int .i64 et, .bool ek.t, .int .i64 ek.n, .string ek.s, ew] tEnt).alloc #[.int .i64 0, .slice none 0 0, .slice none 0 0, .slice none 0 0] tRef
  simp only [World.size_alloc] at h0
  have hones := ent_one es h2.one
  have hone1 := ent_one [⟨et, ek, ew⟩] (by simpa using hew)
  obtain ⟨i0, hi, hz0, hz1, hz2⟩ := info_parts infoEnt
  have HI := Lib.hid (And.intro hi (And.intro hz0 (And.intro hz1 hz2)))
  have HA := Lib.hid ha
  have HL := Lib.hid h1
  have HE := Lib.hid h2
  have HSV := Lib.hid h3
  have HM := Lib.hid h4
  have HONES := Lib.hid hones
  have HONE1 := Lib.hid hone1
  have HS := Lib.hid h0
  have hge : ¬ m.room ≤ es.length := by omega
  clear h1 h2 h3 h4 hs h0 hew ha hones hone1 hi hz0 hz1 hz2
  generalize hN : es.length = N at *
  generalize hM : m.met.length = M at *
  unfold Ent.cells
  dsimp only
  go_enter Try.func22, Try.ntmps22
  go_upto_region 3 with (fail)
  obtain ⟨W, hW, hsW⟩ := HS.out.hide
  rw [← hW]
  clear HS hW
  generalize w.heap.size + 1 + 1 = b2 at hsW ⊢
  generalize w.heap.size + 1 = b1 at hsW ⊢
  generalize w.heap.size = b0 at hsW ⊢
  obtain ⟨c0, c1, c2, c3, cf⟩ := cells4 (hsW.blk 2 rfl)
  have HN0 := Lib.hid (hsW.own_nil tEnt 5)
  have HRD := Lib.hid (HL.out.rd hsW)
  clear hsW
  go_upto_region 5 with (at_builtin; refine wpList_append_Sat _ rfl _ _ 31 rfl tEnt i0 _ 5 64 Try.underlying31 HI.out.1 HI.out.2.1 HI.out.2.2.1 HI.out.2.2.2 rfl _ 0 _ rfl HN0.out _ N _ rfl HRD.out HONES.out (by unfold maxLen; omega) (by omega) ?_; intro v2 w2 h2 h2o; simp only [Nat.zero_add, List.nil_append] at h2; have H2 := Lib.hid h2; clear h2)
  obtain ⟨o2, k2, rfl⟩ := H2.out.own_shape
  clear HN0 HRD c0 c1 c2 c3 cf
  obtain ⟨c0, c1, c2, c3, cf⟩ := cells4 (H2.out.blk 3 rfl)
  obtain ⟨d0, d1, d2, d3, d4, df⟩ := cells5 (H2.out.blk 2 rfl)
  have h3 := H2.out.alloc #[.int .i64 et, .bool ek.t, .int .i64 ek.n, .string ek.s, ew] tEnt
  have hb := rd_block (size := 5) (n := 1) h3.heap_blk rfl (by unfold maxLen; omega)
  have H3 := Lib.hid h3.swap
  have HB := Lib.hid hb
  clear h3 hb
  go_upto_region 6 with (at_builtin; refine wpList_append_Sat _ rfl _ _ 31 rfl tEnt i0 _ 5 64 Try.underlying31 HI.out.1 HI.out.2.1 HI.out.2.2.1 HI.out.2.2.2 rfl _ N _ rfl H3.out _ 1 _ rfl HB.out HONE1.out (by unfold maxLen; omega) (by omega) ?_; intro v4 w4 h4 h4o; have H4 := Lib.hid h4.swap.drop; clear h4)
  obtain ⟨o4, k4, rfl⟩ := H4.out.own_shape
  clear H3 HB H2 c0 c1 c2 c3 cf d0 d1 d2 d3 d4 df
  obtain ⟨c0, c1, c2, c3, cf⟩ := cells4 (H4.out.blk 3 rfl)
  go_upto_region 7 with (fail)
  obtain ⟨W5, hW5, h5⟩ := (H4.out.modify 3 rfl (fun _ h => h.set 1 (.slice o4 (N + 1) k4))).hide
  rw [← hW5]
  simp only [List.set_cons_succ, List.set_cons_zero, List.setIfInBounds_toArray] at h5
  obtain ⟨D5, g1, g2, h5⟩ := h5.own_give
  have H5 := Lib.hid h5
  have HG1 := Lib.hid g1
  have HG2 := Lib.hid g2
  clear g1 g2 h5 hW5 H4 c0 c1 c2 c3 cf
  have hwfM : M ≤ 9223372036854775807 := by omega
  go_wp2_with (fail)
  go_loopw [7] (fun i wr => ∃ k : Nat, i = .int .i64 k ∧ k ≤ M ∧ (∀ j, j < k → m.met[j]? ≠ some ⟨et, ek⟩) ∧
      Sat B D5 wr (blk b2 #[.int .i64 0, .slice none 0 0, .slice none 0 0, .slice none 0 0] tRef :: blk b1 #[.int .i64 et, .bool ek.t, .int .i64 ek.n, .string ek.s, ew] tEnt :: blk b0 #[.int .i64 m.room, .slice o4 (N + 1) k4, .slice so 4 sc, .slice mo M mc] tRef :: l))
    (fun i _ => M - (intOf i).toNat)
  case atStart => exact ⟨0, rfl, by omega, fun j hj => by omega, H5.out⟩
  case round =>
    obtain ⟨k, rfl, hk, hno, hsat⟩ := hrel
    obtain ⟨c0, c1, c2, c3, cf⟩ := cells4 (hsat.blk 2 rfl)
    obtain ⟨d0, d1, d2, d3, d4, df⟩ := cells5 (hsat.blk 1 rfl)
    obtain ⟨z0, z1, z2, z3, zf⟩ := cells4 (hsat.blk 0 rfl)
    have HSAT := Lib.hid hsat
    have HNO := Lib.hid hno
    have hrdm := (HM.out.mono HG1.out).rd hsat
    clear hsat hno H5
    by_cases hlt : k < M
    · obtain ⟨x, hx⟩ : ∃ x, m.met[k]? = some x := ⟨m.met[k]'(by omega), List.getElem?_eq_getElem (by omega)⟩
      obtain ⟨xt, xk⟩ := x
      rcases hrdm.2.2 with ⟨_, _, hv, _, _, _, hcell⟩
      cases hv
      rcases hcell with h0 | ⟨g, og, rfl, hc⟩
      · omega
      have hxe : (m.met.map Spot.ent)[k]? = some (Spot.ent ⟨xt, xk⟩) := by rw [List.getElem?_map, hx]; rfl
      have a0 := hc _ _ (flat_get Ent.len _ k _ hxe 0 _ rfl)
      have a1 := hc _ _ (flat_get Ent.len _ k _ hxe 1 _ rfl)
      have a2 := hc _ _ (flat_get Ent.len _ k _ hxe 2 _ rfl)
      have a3 := hc _ _ (flat_get Ent.len _ k _ hxe 3 _ rfl)
      simp only [Spot.ent] at a0 a1 a2 a3
      rw [Nat.add_zero] at a0
      rw [← Nat.add_assoc] at a1 a2 a3
      have HX := Lib.hid hx
      clear hc hx hxe hrdm
      by_cases ht : xt = et
      · subst ht
        by_cases hke : xk = ek
        · subst hke
          go_wp2_with (fail)
          go_quiet (fail)
          go_wp2_with (fail)
          have HADD : addMet m.met ⟨xt, xk⟩ = m.met := by unfold addMet; rw [if_pos (List.mem_of_getElem? HX.out)]
          refine bodyPost_ret (v := .tuple #[.agg #[.int .i64 m.room, .slice o4 (N + 1) k4, .slice so 4 sc, .slice (some ⟨g, og, none⟩) M mc], .int .i64 0]) (by simp [results, Try.results22, go_sem, z0, z1, z2, z3, zf]) rfl ⟨_, rfl, _, _, _, D5, rfl, HG1.out, ⟨es ++ [⟨xt, xk, ew⟩], ?_, (HE.out.mono HG1.out).snoc (HA.out.mono HG1.out), HSV.out.mono HG1.out, ?_⟩, ?_⟩
          · rw [List.flatMap_append, List.length_append, hN]
            exact HG2.out
          · rw [HADD, hM]
            exact HM.out.mono HG1.out
          · exact ((HSAT.out.drewN _).set4 _ _ _ _).drop.drop.drop
        · have hv : valEqB xk.t xk.n xk.s ek.t ek.n ek.s = false := by rw [valEqB_val]; exact decide_eq_false hke
          go_wp2_with (fail)
          go_quiet (fail)
          go_wp2_with (fail)
          go_roundw
          case rel => exact ⟨k + 1, by go_num, by omega, fun j hj => (if h : j < k then HNO.out j h else by rw [show j = k by omega, HX.out]; simp [hke]), HSAT.out.drewN _⟩
          case measure => simp [intOf] <;> omega
      · have hte : ((xt : Int) == et) = false := by simpa using ht
        go_wp2_with (fail)
        go_quiet (fail)
        go_wp2_with (fail)
        go_roundw
        case rel => exact ⟨k + 1, by go_num, by omega, fun j hj => (if h : j < k then HNO.out j h else by rw [show j = k by omega, HX.out]; simp [ht]), HSAT.out.drewN _⟩
        case measure => simp [intOf] <;> omega
    · obtain rfl : k = M := by omega
      have hnm : (⟨et, ek⟩ : Spot) ∉ m.met := not_mem_of HNO.out (by omega)
      have HADD := Lib.hid (show addMet m.met ⟨et, ek⟩ = m.met ++ [⟨et, ek⟩] by unfold addMet; rw [if_neg hnm])
      have HN1 := Lib.hid (HSAT.out.own_nil tEnt 5)
      have HRD := Lib.hid hrdm
      have hone2 := ent_one (m.met.map Spot.ent) (by simp [Spot.ent, Value.oneCell'])
      have HONE2 := Lib.hid hone2
      clear hnm hone2 hrdm
      go_upto_region 14 with (at_builtin; refine wpList_append_Sat _ rfl _ _ 31 rfl tEnt i0 _ 5 64 Try.underlying31 HI.out.1 HI.out.2.1 HI.out.2.2.1 HI.out.2.2.2 rfl _ 0 _ rfl HN1.out _ k _ rfl HRD.out HONE2.out (by unfold maxLen; omega) (by omega) ?_; intro v6 w6 h6 h6o; simp only [Nat.zero_add, List.nil_append] at h6; have H6 := Lib.hid h6; clear h6)
      obtain ⟨o6, k6, rfl⟩ := H6.out.own_shape
      clear HN1 HRD HONE2 HSAT c0 c1 c2 c3 cf d0 d1 d2 d3 d4 df z0 z1 z2 z3 zf
      obtain ⟨c0, c1, c2, c3, cf⟩ := cells4 (H6.out.blk 3 rfl)
      obtain ⟨d0, d1, d2, d3, d4, df⟩ := cells5 (H6.out.blk 2 rfl)
      obtain ⟨z0, z1, z2, z3, zf⟩ := cells4 (H6.out.blk 1 rfl)
      have h7 := H6.out.alloc #[.int .i64 et, .bool ek.t, .int .i64 ek.n, .string ek.s, .slice none 0 0] tEnt
      have hb := rd_block (size := 5) (n := 1) h7.heap_blk rfl (by unfold maxLen; omega)
      have hone3 := ent_one [⟨et, ek, .slice none 0 0⟩] (by simp [Value.oneCell'])
      have HONE3 := Lib.hid hone3
      have H7 := Lib.hid h7.swap
      have HB := Lib.hid hb
      clear h7 hb hone3
      go_upto_region 15 with (at_builtin; refine wpList_append_Sat _ rfl _ _ 31 rfl tEnt i0 _ 5 64 Try.underlying31 HI.out.1 HI.out.2.1 HI.out.2.2.1 HI.out.2.2.2 rfl _ k _ rfl H7.out _ 1 _ rfl HB.out HONE3.out (by unfold maxLen; omega) (by omega) ?_; intro v8 w8 h8 h8o; have H8 := Lib.hid h8.swap.drop; clear h8)
      obtain ⟨o8, k8, rfl⟩ := H8.out.own_shape
      clear H7 HB H6 c0 c1 c2 c3 cf d0 d1 d2 d3 d4 df z0 z1 z2 z3 zf
      obtain ⟨c0, c1, c2, c3, cf⟩ := cells4 (H8.out.blk 3 rfl)
      go_upto_region 16 with (fail)
      have h9 := H8.out.modify 3 rfl (fun _ h => h.set 3 (.slice o8 (k + 1) k8))
      simp only [List.set_cons_succ, List.set_cons_zero, List.setIfInBounds_toArray] at h9
      obtain ⟨W9, hW9, h9⟩ := h9.hide
      rw [← hW9]
      obtain ⟨D9, g1, g2, h9⟩ := h9.own_give
      clear H8 hW9 c0 c1 c2 c3 cf
      obtain ⟨c0, c1, c2, c3, cf⟩ := cells4 (h9.blk 2 rfl)
      obtain ⟨z0, z1, z2, z3, zf⟩ := cells4 (h9.blk 0 rfl)
      have H9 := Lib.hid h9
      have G1 := Lib.hid g1
      have G2 := Lib.hid g2
      clear h9 g1 g2
      go_wp2_with (fail)
      refine bodyPost_ret (v := .tuple #[.agg #[.int .i64 m.room, .slice o4 (N + 1) k4, .slice so 4 sc, .slice o8 (k + 1) k8], .int .i64 0]) (by simp [results, Try.results22, go_sem, z0, z1, z2, z3, zf]) rfl ⟨_, rfl, _, _, _, D9, rfl, HG1.out.trans G1.out, ⟨es ++ [⟨et, ek, ew⟩], ?_, (HE.out.mono (HG1.out.trans G1.out)).snoc (HA.out.mono (HG1.out.trans G1.out)), HSV.out.mono (HG1.out.trans G1.out), ?_⟩, ?_⟩
      · have := HG2.out.mono G1.out
        rw [List.flatMap_append, List.length_append, hN]
        exact this
      · rw [HADD.out]
        dsimp only
        rw [List.map_append, List.flatMap_append, List.length_append, hM]
        exact G2.out
      · exact (H9.out.set4 _ _ _ _).drop.drop.drop
end Go.Proofs.Ytokcpmeoiblpfaa
