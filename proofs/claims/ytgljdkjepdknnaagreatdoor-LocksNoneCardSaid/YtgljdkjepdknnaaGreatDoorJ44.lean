/- For whom somebody waits. (printed by genq.py) -/
import Derived.Test.YtgljdkjepdknnaaGreatDoorJ16
import Derived.Test.YtgljdkjepdknnaaGreatDoorJ43
import Derived.Test.YtgljdkjepdknnaaGreatDoorJ15
namespace Go.Proofs.YtgljdkjepdknnaaGreatDoor
open Go.ChangeShapes Go.WideShapes Go.ChangeAt Go.RowKit
set_option maxRecDepth 100000
set_option linter.unusedSimpArgs false


theorem Sat.set1_C {B w : World} {D : PH} {l : List HP} {b : Nat} {t : TypeId} {y : Value} (hs : Sat B D w (Proofs.YtgljdkjepdknnaaGreatDoor.blk b #[y] t :: l)) (u : Value) : Sat B D (w.setCell ⟨b, 0, none⟩ u) (Proofs.YtgljdkjepdknnaaGreatDoor.blk b #[u] t :: l) := hs.set 0 u
noncomputable def blockToC (zs : List (EntE)) (o : Int) (c : Clm) (j : Nat) : List Int := (((zs.take j).map entC).filter (meetsE RC o c)).map (fun e => e.o)
theorem blockToC_yes {zs : List (EntE)} {o : Int} {c : Clm} {j : Nat} {x : EntE} (hx : zs[j]? = some x) (h : meetsE RC o c (entC x) = true) : blockToC zs o c (j + 1) = blockToC zs o c j ++ [x.o] := by
  unfold blockToC
  rw [List.take_add_one, hx, List.map_append, List.filter_append, List.map_append]
  simp [h]
theorem blockToC_no {zs : List (EntE)} {o : Int} {c : Clm} {j : Nat} {x : EntE} (hx : zs[j]? = some x) (h : meetsE RC o c (entC x) = false) : blockToC zs o c (j + 1) = blockToC zs o c j := by
  unfold blockToC
  rw [List.take_add_one, hx, List.map_append, List.filter_append, List.map_append]
  simp [h]
theorem blockToC_le (zs : List (EntE)) (o : Int) (c : Clm) (j : Nat) : (blockToC zs o c j).length ≤ j := by
  unfold blockToC
  rw [List.length_map]
  exact Nat.le_trans (List.length_filter_le _ _) (by rw [List.length_map, List.length_take]; omega)
abbrev noteLC (q b1 b2 b5 b6 : Nat) (hv wv ov : Value) (hs ws : List (EntE)) (o : Int) (k : Nat) (out : List Int) (l : List HP) : List HP :=
  qbC q hv wv :: entsC hv hs :: entsC wv ws :: blk b1 #[.int .i64 o] 3 :: blk b2 #[.pointer (some ⟨q, 0, none⟩)] 74 :: blk b5 #[.int .i64 k] 3 :: blk b6 #[ov] 42 :: intsP ov out :: l
def NotedC (B : World) (D : PH) (L : Value → List HP) (r : Ending) (w' : World) : Prop := ∃ ov', r = .returned (.tuple #[]) ∧ Sat B D w' (L ov')
set_option maxHeartbeats 8000000 in
theorem note_C {B w : World} {D : PH} {l : List HP} {q b1 b2 b5 b6 : Nat} {hv wv ov av : Value} {hs ws zs : List (EntE)} {o : Int} {k : Nat} {en : EntE} {out : List Int} (he : EnvD D)
    (hz : ∀ x ∈ zs, ClOk D x.x) (hen : ClOk D en.x)
    (hk : ws[k]? = some en) (hl : out.length + zs.length ≤ 1000000) (hav : ∀ W Y, Sat B D W (qbC q hv wv :: entsC hv hs :: entsC wv ws :: Y) → Rd W 18 av zs.length (zs.flatMap cellsC))
    (h : Sat B D w (noteLC q b1 b2 b5 b6 hv wv ov hs ws o k out l)) :
    Calls Tryz.prog 105 #[av, .pointer (some ⟨b1, 0, none⟩), .pointer (some ⟨b2, 0, none⟩), .pointer (some ⟨b5, 0, none⟩), .pointer (some ⟨b6, 0, none⟩)] w (NotedC B D (fun ov' => noteLC q b1 b2 b5 b6 hv wv ov' hs ws o k (out ++ blockToC zs o (entC en).c zs.length) l)) := by
  obtain ⟨i0, hi, hz0, hz1, hz2⟩ := info_parts infoInt
  have HI := Lib.hid (And.intro hi (And.intro hz0 (And.intro hz1 hz2)))
  obtain ⟨wa, wc, rfl⟩ := (h.front 2 rfl).own_shape
  obtain ⟨_, hml, aa, ac, rfl, hnc, hcm, _⟩ := hav w _ h
  unfold maxLen at hml hcm
  have HAV := Lib.hid hav
  have HE := Lib.hid he
  have HK := Lib.hid hk
  have HZ := Lib.hid hz
  have HEN := Lib.hid hen
  have HS1 := Lib.hid (show Sat B D w (noteLC q b1 b2 b5 b6 hv (.slice wa ws.length wc) ov hs ws o k (out ++ blockToC zs o (entC en).c 0) l) by rw [show blockToC zs o (entC en).c 0 = [] from rfl, List.append_nil]; exact h)
  have hkl : k < ws.length := (List.getElem?_eq_some_iff.1 hk).1
  clear h he hk hav hi hz0 hz1 hz2
  clear hz hen
  obtain ⟨N, hN⟩ : ∃ N, zs.length = N := ⟨_, rfl⟩
  have HN := Lib.hid hN
  rw [hN] at hml hnc hl HAV ⊢
  clear hN
  go_enter Tryz.func105, Tryz.ntmps105
  go_wp2_with fail
  go_loopw [10] (fun ii wr2 => ∃ (j : Nat) (ov : Value), ii = .int .i64 j ∧ j ≤ N ∧ Sat B D wr2 (noteLC q b1 b2 b5 b6 hv (.slice wa ws.length wc) ov hs ws o k (out ++ blockToC zs o (entC en).c j) l)) (fun ii _ => N - (intOf ii).toNat)
  case atStart => exact ⟨0, _, rfl, by omega, HS1.out⟩
  case round =>
    obtain ⟨j, ov, rfl, hj, hs2⟩ := hrel
    have HS2 := Lib.hid hs2
    have hle := blockToC_le zs o (entC en).c j
    clear hs2 HS1
    by_cases hlt : j < N
    · have hii : (j : Int) < (N : Int) := by omega
      obtain ⟨x, hx⟩ : ∃ x, zs[j]? = some x := ⟨zs[j]'(by rw [HN.out]; exact hlt), List.getElem?_eq_getElem _⟩
      obtain ⟨g, og, rfl, hrng⟩ := elem_range lenC (HAV.out wr _ HS2.out) hx HN.out
      have HL := Lib.hid (loadC hrng)
      have HX := Lib.hid hx
      have HS3 := Lib.hid (HS2.out.alloc (cellsC x).toArray tEnC)
      clear hx hrng
      go_upto_region 3 with (first | (refine wpList_ld rfl _ _ rfl _ _ rfl _ HL.out ?_) | (refine wpList_store_new rfl _ _ _ rfl (cellsC x) _ _ rfl rfl (by kernel_rfl) rfl (oneC x) ?_))
      clear HL HS2
      obtain ⟨W4, hW4, hs4⟩ := Sat.hide HS3.out
      rw [← hW4]
      clear hW4 HS3
      generalize wr.heap.size = bx at hs4 ⊢
      have HS4 := Lib.hid hs4
      obtain ⟨x0, _⟩ := boxC (hs4.blk 0 rfl)
      obtain ⟨d1, _⟩ := cells1 (hs4.blk 4 rfl)
      obtain ⟨d2, _⟩ := cells1 (hs4.blk 5 rfl)
      obtain ⟨d5, _⟩ := cells1 (hs4.blk 6 rfl)
      by_cases ho : x.o = o
      · have HT := Lib.hid (blockToC_no HX.out (show meetsE RC o (entC en).c (entC x) = false by unfold meetsE; simp [ho]))
        rw [ho] at x0
        clear ho hs4
        refine wp_region_canon [(0, false, 20), (1, false, 20), (2, false, 20), (3, false, 20), (4, false, 20), (5, false, 20), (6, false, 20), (7, false, 20), (8, false, 20), (9, false, 20), (10, false, 20), (11, false, 20), (12, false, 20), (13, false, 20), (14, false, 20), (15, false, 20), (16, false, 20), (17, false, 20), (18, false, 20), (19, false, 20), (20, true, 0), (21, false, 999)] (by kernel_rfl) (by kernel_rfl) ?_
        iterate 5 (refine wpCan_read rfl rfl (fun K hK => ?_); go_simp; refine hK _ ?_; clear hK K)
        first | (refine wpCan_no rfl rfl ?_; simp only [Act.put, List.setIfInBounds_toArray, List.set_cons_succ, List.set_cons_zero, List.getElem_toArray, List.getElem_cons_succ, List.getElem_cons_zero]) | (refine wpCan_yes rfl rfl (fun K hK => ?_); go_simp; refine hK _ ?_; clear hK K)
        first | (refine wpCan_no rfl rfl ?_; simp only [Act.put, List.setIfInBounds_toArray, List.set_cons_succ, List.set_cons_zero, List.getElem_toArray, List.getElem_cons_succ, List.getElem_cons_zero]) | (refine wpCan_yes rfl rfl (fun K hK => ?_); go_simp; refine hK _ ?_; clear hK K)
        first | (refine wpCan_no rfl rfl ?_; simp only [Act.put, List.setIfInBounds_toArray, List.set_cons_succ, List.set_cons_zero, List.getElem_toArray, List.getElem_cons_succ, List.getElem_cons_zero]) | (refine wpCan_yes rfl rfl (fun K hK => ?_); go_simp; refine hK _ ?_; clear hK K)
        first | (refine wpCan_no rfl rfl ?_; simp only [Act.put, List.setIfInBounds_toArray, List.set_cons_succ, List.set_cons_zero, List.getElem_toArray, List.getElem_cons_succ, List.getElem_cons_zero]) | (refine wpCan_yes rfl rfl (fun K hK => ?_); go_simp; refine hK _ ?_; clear hK K)
        first | (refine wpCan_no rfl rfl ?_; simp only [Act.put, List.setIfInBounds_toArray, List.set_cons_succ, List.set_cons_zero, List.getElem_toArray, List.getElem_cons_succ, List.getElem_cons_zero]) | (refine wpCan_yes rfl rfl (fun K hK => ?_); go_simp; refine hK _ ?_; clear hK K)
        first | (refine wpCan_no rfl rfl ?_; simp only [Act.put, List.setIfInBounds_toArray, List.set_cons_succ, List.set_cons_zero, List.getElem_toArray, List.getElem_cons_succ, List.getElem_cons_zero]) | (refine wpCan_yes rfl rfl (fun K hK => ?_); go_simp; refine hK _ ?_; clear hK K)
        first | (refine wpCan_no rfl rfl ?_; simp only [Act.put, List.setIfInBounds_toArray, List.set_cons_succ, List.set_cons_zero, List.getElem_toArray, List.getElem_cons_succ, List.getElem_cons_zero]) | (refine wpCan_yes rfl rfl (fun K hK => ?_); go_simp; refine hK _ ?_; clear hK K)
        first | (refine wpCan_no rfl rfl ?_; simp only [Act.put, List.setIfInBounds_toArray, List.set_cons_succ, List.set_cons_zero, List.getElem_toArray, List.getElem_cons_succ, List.getElem_cons_zero]) | (refine wpCan_yes rfl rfl (fun K hK => ?_); go_simp; refine hK _ ?_; clear hK K)
        first | (refine wpCan_no rfl rfl ?_; simp only [Act.put, List.setIfInBounds_toArray, List.set_cons_succ, List.set_cons_zero, List.getElem_toArray, List.getElem_cons_succ, List.getElem_cons_zero]) | (refine wpCan_yes rfl rfl (fun K hK => ?_); go_simp; refine hK _ ?_; clear hK K)
        first | (refine wpCan_no rfl rfl ?_; simp only [Act.put, List.setIfInBounds_toArray, List.set_cons_succ, List.set_cons_zero, List.getElem_toArray, List.getElem_cons_succ, List.getElem_cons_zero]) | (refine wpCan_yes rfl rfl (fun K hK => ?_); go_simp; refine hK _ ?_; clear hK K)
        first | (refine wpCan_no rfl rfl ?_; simp only [Act.put, List.setIfInBounds_toArray, List.set_cons_succ, List.set_cons_zero, List.getElem_toArray, List.getElem_cons_succ, List.getElem_cons_zero]) | (refine wpCan_yes rfl rfl (fun K hK => ?_); go_simp; refine hK _ ?_; clear hK K)
        first | (refine wpCan_no rfl rfl ?_; simp only [Act.put, List.setIfInBounds_toArray, List.set_cons_succ, List.set_cons_zero, List.getElem_toArray, List.getElem_cons_succ, List.getElem_cons_zero]) | (refine wpCan_yes rfl rfl (fun K hK => ?_); go_simp; refine hK _ ?_; clear hK K)
        first | (refine wpCan_no rfl rfl ?_; simp only [Act.put, List.setIfInBounds_toArray, List.set_cons_succ, List.set_cons_zero, List.getElem_toArray, List.getElem_cons_succ, List.getElem_cons_zero]) | (refine wpCan_yes rfl rfl (fun K hK => ?_); go_simp; refine hK _ ?_; clear hK K)
        first | (refine wpCan_no rfl rfl ?_; simp only [Act.put, List.setIfInBounds_toArray, List.set_cons_succ, List.set_cons_zero, List.getElem_toArray, List.getElem_cons_succ, List.getElem_cons_zero]) | (refine wpCan_yes rfl rfl (fun K hK => ?_); go_simp; refine hK _ ?_; clear hK K)
        first | (refine wpCan_no rfl rfl ?_; simp only [Act.put, List.setIfInBounds_toArray, List.set_cons_succ, List.set_cons_zero, List.getElem_toArray, List.getElem_cons_succ, List.getElem_cons_zero]) | (refine wpCan_yes rfl rfl (fun K hK => ?_); go_simp; refine hK _ ?_; clear hK K)
        refine wpCan_eff rfl ?_
        refine wpList_not rfl ?_
        simp only [Act.put, List.setIfInBounds_toArray, List.set_cons_succ, List.set_cons_zero]
        refine wpList_nil ?_
        refine And.intro ?_ ?_
        · go_simp
        iterate 1 (refine wpCan_read rfl rfl (fun K hK => ?_); go_simp; refine hK _ ?_; clear hK K)
        refine wpCan_nil ?_
        go_wp2_with fail
        go_roundw
        case rel => exact ⟨j + 1, _, by go_num, by omega, by rw [HT.out]; exact HS4.out.drew.drop⟩
        case measure => simp [intOf]; omega
      · have hne : (x.o == o) = false := by simpa using ho
        have hne2 : (x.o != o) = true := by simpa using ho
        have HME := Lib.hid (show meetsE RC o (entC en).c (entC x) = RC.conf (entC x).c (entC en).c by unfold meetsE; simp [ho])
        obtain ⟨gw, ow, hgw, hrw⟩ := elem_range lenC (hs4.own 3 rfl).rd HK.out rfl
        subst hgw
        obtain ⟨c0, c1, c2, c3, c4, c5, cf⟩ := cells6 (hs4.blk 1 rfl)
        have hkl2 : (k : Int) < (ws.length : Int) := by omega
        have HWS := Lib.hid (show ∃ n, n = ws.length from ⟨_, rfl⟩)
        obtain ⟨nw, hnw⟩ := HWS.out
        rw [← hnw] at c5 hkl2
        have HNW := Lib.hid hnw
        have HLB := Lib.hid (loadCl (w := W4.drew) (boxCl (w := W4.drew) (hs4.blk 0 rfl)))
        have HLW := Lib.hid (loadCl (w := W4.drew) (rangeCl (w := W4.drew) hrw))
        have HCF := Lib.hid (conf_C (HE.out.env hs4.drew) ((HZ.out x (List.mem_of_getElem? HX.out)).rd hs4.drew) (HEN.out.rd hs4.drew))
        clear ho hs4 hrw hnw HWS
        cases hcf : RC.conf (entC x).c (entC en).c
        · rw [hcf] at HME
          have HT := Lib.hid (blockToC_no HX.out HME.out)
          rw [show RC.conf x.x.c en.x.c = false from hcf] at HCF
          clear hcf HME
          refine wp_region_canon [(0, false, 20), (1, false, 20), (2, false, 20), (3, false, 20), (4, false, 20), (5, false, 20), (6, false, 20), (7, false, 20), (8, false, 20), (9, false, 20), (10, false, 20), (11, false, 20), (12, false, 20), (13, false, 20), (14, false, 20), (15, false, 20), (16, false, 20), (17, false, 20), (18, false, 20), (19, false, 20), (20, true, 0), (21, false, 999)] (by kernel_rfl) (by kernel_rfl) ?_
          iterate 5 (refine wpCan_read rfl rfl (fun K hK => ?_); (first | ((refine still_ld _ _ rfl _ _ rfl _ HLB.out ?_); go_simp) | ((refine still_ld _ _ rfl _ _ rfl _ HLW.out ?_); go_simp) | go_simp); refine hK _ ?_; clear hK K)
          first | (refine wpCan_no rfl rfl ?_; simp only [Act.put, List.setIfInBounds_toArray, List.set_cons_succ, List.set_cons_zero, List.getElem_toArray, List.getElem_cons_succ, List.getElem_cons_zero]) | (refine wpCan_yes rfl rfl (fun K hK => ?_); (first | ((refine still_ld _ _ rfl _ _ rfl _ HLB.out ?_); go_simp) | ((refine still_ld _ _ rfl _ _ rfl _ HLW.out ?_); go_simp) | go_simp); refine hK _ ?_; clear hK K)
          first | (refine wpCan_no rfl rfl ?_; simp only [Act.put, List.setIfInBounds_toArray, List.set_cons_succ, List.set_cons_zero, List.getElem_toArray, List.getElem_cons_succ, List.getElem_cons_zero]) | (refine wpCan_yes rfl rfl (fun K hK => ?_); (first | ((refine still_ld _ _ rfl _ _ rfl _ HLB.out ?_); go_simp) | ((refine still_ld _ _ rfl _ _ rfl _ HLW.out ?_); go_simp) | go_simp); refine hK _ ?_; clear hK K)
          first | (refine wpCan_no rfl rfl ?_; simp only [Act.put, List.setIfInBounds_toArray, List.set_cons_succ, List.set_cons_zero, List.getElem_toArray, List.getElem_cons_succ, List.getElem_cons_zero]) | (refine wpCan_yes rfl rfl (fun K hK => ?_); (first | ((refine still_ld _ _ rfl _ _ rfl _ HLB.out ?_); go_simp) | ((refine still_ld _ _ rfl _ _ rfl _ HLW.out ?_); go_simp) | go_simp); refine hK _ ?_; clear hK K)
          first | (refine wpCan_no rfl rfl ?_; simp only [Act.put, List.setIfInBounds_toArray, List.set_cons_succ, List.set_cons_zero, List.getElem_toArray, List.getElem_cons_succ, List.getElem_cons_zero]) | (refine wpCan_yes rfl rfl (fun K hK => ?_); (first | ((refine still_ld _ _ rfl _ _ rfl _ HLB.out ?_); go_simp) | ((refine still_ld _ _ rfl _ _ rfl _ HLW.out ?_); go_simp) | go_simp); refine hK _ ?_; clear hK K)
          first | (refine wpCan_no rfl rfl ?_; simp only [Act.put, List.setIfInBounds_toArray, List.set_cons_succ, List.set_cons_zero, List.getElem_toArray, List.getElem_cons_succ, List.getElem_cons_zero]) | (refine wpCan_yes rfl rfl (fun K hK => ?_); (first | ((refine still_ld _ _ rfl _ _ rfl _ HLB.out ?_); go_simp) | ((refine still_ld _ _ rfl _ _ rfl _ HLW.out ?_); go_simp) | go_simp); refine hK _ ?_; clear hK K)
          first | (refine wpCan_no rfl rfl ?_; simp only [Act.put, List.setIfInBounds_toArray, List.set_cons_succ, List.set_cons_zero, List.getElem_toArray, List.getElem_cons_succ, List.getElem_cons_zero]) | (refine wpCan_yes rfl rfl (fun K hK => ?_); (first | ((refine still_ld _ _ rfl _ _ rfl _ HLB.out ?_); go_simp) | ((refine still_ld _ _ rfl _ _ rfl _ HLW.out ?_); go_simp) | go_simp); refine hK _ ?_; clear hK K)
          first | (refine wpCan_no rfl rfl ?_; simp only [Act.put, List.setIfInBounds_toArray, List.set_cons_succ, List.set_cons_zero, List.getElem_toArray, List.getElem_cons_succ, List.getElem_cons_zero]) | (refine wpCan_yes rfl rfl (fun K hK => ?_); (first | ((refine still_ld _ _ rfl _ _ rfl _ HLB.out ?_); go_simp) | ((refine still_ld _ _ rfl _ _ rfl _ HLW.out ?_); go_simp) | go_simp); refine hK _ ?_; clear hK K)
          first | (refine wpCan_no rfl rfl ?_; simp only [Act.put, List.setIfInBounds_toArray, List.set_cons_succ, List.set_cons_zero, List.getElem_toArray, List.getElem_cons_succ, List.getElem_cons_zero]) | (refine wpCan_yes rfl rfl (fun K hK => ?_); (first | ((refine still_ld _ _ rfl _ _ rfl _ HLB.out ?_); go_simp) | ((refine still_ld _ _ rfl _ _ rfl _ HLW.out ?_); go_simp) | go_simp); refine hK _ ?_; clear hK K)
          first | (refine wpCan_no rfl rfl ?_; simp only [Act.put, List.setIfInBounds_toArray, List.set_cons_succ, List.set_cons_zero, List.getElem_toArray, List.getElem_cons_succ, List.getElem_cons_zero]) | (refine wpCan_yes rfl rfl (fun K hK => ?_); (first | ((refine still_ld _ _ rfl _ _ rfl _ HLB.out ?_); go_simp) | ((refine still_ld _ _ rfl _ _ rfl _ HLW.out ?_); go_simp) | go_simp); refine hK _ ?_; clear hK K)
          first | (refine wpCan_no rfl rfl ?_; simp only [Act.put, List.setIfInBounds_toArray, List.set_cons_succ, List.set_cons_zero, List.getElem_toArray, List.getElem_cons_succ, List.getElem_cons_zero]) | (refine wpCan_yes rfl rfl (fun K hK => ?_); (first | ((refine still_ld _ _ rfl _ _ rfl _ HLB.out ?_); go_simp) | ((refine still_ld _ _ rfl _ _ rfl _ HLW.out ?_); go_simp) | go_simp); refine hK _ ?_; clear hK K)
          first | (refine wpCan_no rfl rfl ?_; simp only [Act.put, List.setIfInBounds_toArray, List.set_cons_succ, List.set_cons_zero, List.getElem_toArray, List.getElem_cons_succ, List.getElem_cons_zero]) | (refine wpCan_yes rfl rfl (fun K hK => ?_); (first | ((refine still_ld _ _ rfl _ _ rfl _ HLB.out ?_); go_simp) | ((refine still_ld _ _ rfl _ _ rfl _ HLW.out ?_); go_simp) | go_simp); refine hK _ ?_; clear hK K)
          first | (refine wpCan_no rfl rfl ?_; simp only [Act.put, List.setIfInBounds_toArray, List.set_cons_succ, List.set_cons_zero, List.getElem_toArray, List.getElem_cons_succ, List.getElem_cons_zero]) | (refine wpCan_yes rfl rfl (fun K hK => ?_); (first | ((refine still_ld _ _ rfl _ _ rfl _ HLB.out ?_); go_simp) | ((refine still_ld _ _ rfl _ _ rfl _ HLW.out ?_); go_simp) | go_simp); refine hK _ ?_; clear hK K)
          first | (refine wpCan_no rfl rfl ?_; simp only [Act.put, List.setIfInBounds_toArray, List.set_cons_succ, List.set_cons_zero, List.getElem_toArray, List.getElem_cons_succ, List.getElem_cons_zero]) | (refine wpCan_yes rfl rfl (fun K hK => ?_); (first | ((refine still_ld _ _ rfl _ _ rfl _ HLB.out ?_); go_simp) | ((refine still_ld _ _ rfl _ _ rfl _ HLW.out ?_); go_simp) | go_simp); refine hK _ ?_; clear hK K)
          first | (refine wpCan_no rfl rfl ?_; simp only [Act.put, List.setIfInBounds_toArray, List.set_cons_succ, List.set_cons_zero, List.getElem_toArray, List.getElem_cons_succ, List.getElem_cons_zero]) | (refine wpCan_yes rfl rfl (fun K hK => ?_); (first | ((refine still_ld _ _ rfl _ _ rfl _ HLB.out ?_); go_simp) | ((refine still_ld _ _ rfl _ _ rfl _ HLW.out ?_); go_simp) | go_simp); refine hK _ ?_; clear hK K)
          first | (refine wpCan_no rfl rfl ?_; simp only [Act.put, List.setIfInBounds_toArray, List.set_cons_succ, List.set_cons_zero, List.getElem_toArray, List.getElem_cons_succ, List.getElem_cons_zero]) | (refine wpCan_yes rfl rfl (fun K hK => ?_); (first | ((refine still_ld _ _ rfl _ _ rfl _ HLB.out ?_); go_simp) | ((refine still_ld _ _ rfl _ _ rfl _ HLW.out ?_); go_simp) | go_simp); refine hK _ ?_; clear hK K)
          refine wpCan_eff rfl ?_
          refine wpList_do rfl (fun K hK => ?_)
          go_simp
          refine HCF.out.mono ?_
          rintro e6 w6 ⟨rfl, hk6⟩
          have HS6 := Lib.hid (HS4.out.drew.kept hk6).drop
          clear hk6 HS4 HCF
          refine hK _ _ ?_
          clear hK K
          refine wpList_nil ?_
          refine And.intro ?_ ?_
          · go_simp
          iterate 1 (refine wpCan_read rfl rfl (fun K hK => ?_); (first | ((refine still_ld _ _ rfl _ _ rfl _ HLB.out ?_); go_simp) | ((refine still_ld _ _ rfl _ _ rfl _ HLW.out ?_); go_simp) | go_simp); refine hK _ ?_; clear hK K)
          refine wpCan_nil ?_
          go_wp2_with fail
          go_roundw
          case rel => exact ⟨j + 1, _, by go_num, by omega, by rw [HT.out]; exact HS6.out⟩
          case measure => simp [intOf]; omega
        · rw [hcf] at HME
          have HT := Lib.hid (blockToC_yes HX.out HME.out)
          rw [show RC.conf x.x.c en.x.c = true from hcf] at HCF
          clear hcf HME
          refine wp_region_canon [(0, false, 20), (1, false, 20), (2, false, 20), (3, false, 20), (4, false, 20), (5, false, 20), (6, false, 20), (7, false, 20), (8, false, 20), (9, false, 20), (10, false, 20), (11, false, 20), (12, false, 20), (13, false, 20), (14, false, 20), (15, false, 20), (16, false, 20), (17, false, 20), (18, false, 20), (19, false, 20), (20, true, 0), (21, false, 999)] (by kernel_rfl) (by kernel_rfl) ?_
          iterate 5 (refine wpCan_read rfl rfl (fun K hK => ?_); (first | ((refine still_ld _ _ rfl _ _ rfl _ HLB.out ?_); go_simp) | ((refine still_ld _ _ rfl _ _ rfl _ HLW.out ?_); go_simp) | go_simp); refine hK _ ?_; clear hK K)
          first | (refine wpCan_no rfl rfl ?_; simp only [Act.put, List.setIfInBounds_toArray, List.set_cons_succ, List.set_cons_zero, List.getElem_toArray, List.getElem_cons_succ, List.getElem_cons_zero]) | (refine wpCan_yes rfl rfl (fun K hK => ?_); (first | ((refine still_ld _ _ rfl _ _ rfl _ HLB.out ?_); go_simp) | ((refine still_ld _ _ rfl _ _ rfl _ HLW.out ?_); go_simp) | go_simp); refine hK _ ?_; clear hK K)
          first | (refine wpCan_no rfl rfl ?_; simp only [Act.put, List.setIfInBounds_toArray, List.set_cons_succ, List.set_cons_zero, List.getElem_toArray, List.getElem_cons_succ, List.getElem_cons_zero]) | (refine wpCan_yes rfl rfl (fun K hK => ?_); (first | ((refine still_ld _ _ rfl _ _ rfl _ HLB.out ?_); go_simp) | ((refine still_ld _ _ rfl _ _ rfl _ HLW.out ?_); go_simp) | go_simp); refine hK _ ?_; clear hK K)
          first | (refine wpCan_no rfl rfl ?_; simp only [Act.put, List.setIfInBounds_toArray, List.set_cons_succ, List.set_cons_zero, List.getElem_toArray, List.getElem_cons_succ, List.getElem_cons_zero]) | (refine wpCan_yes rfl rfl (fun K hK => ?_); (first | ((refine still_ld _ _ rfl _ _ rfl _ HLB.out ?_); go_simp) | ((refine still_ld _ _ rfl _ _ rfl _ HLW.out ?_); go_simp) | go_simp); refine hK _ ?_; clear hK K)
          first | (refine wpCan_no rfl rfl ?_; simp only [Act.put, List.setIfInBounds_toArray, List.set_cons_succ, List.set_cons_zero, List.getElem_toArray, List.getElem_cons_succ, List.getElem_cons_zero]) | (refine wpCan_yes rfl rfl (fun K hK => ?_); (first | ((refine still_ld _ _ rfl _ _ rfl _ HLB.out ?_); go_simp) | ((refine still_ld _ _ rfl _ _ rfl _ HLW.out ?_); go_simp) | go_simp); refine hK _ ?_; clear hK K)
          first | (refine wpCan_no rfl rfl ?_; simp only [Act.put, List.setIfInBounds_toArray, List.set_cons_succ, List.set_cons_zero, List.getElem_toArray, List.getElem_cons_succ, List.getElem_cons_zero]) | (refine wpCan_yes rfl rfl (fun K hK => ?_); (first | ((refine still_ld _ _ rfl _ _ rfl _ HLB.out ?_); go_simp) | ((refine still_ld _ _ rfl _ _ rfl _ HLW.out ?_); go_simp) | go_simp); refine hK _ ?_; clear hK K)
          first | (refine wpCan_no rfl rfl ?_; simp only [Act.put, List.setIfInBounds_toArray, List.set_cons_succ, List.set_cons_zero, List.getElem_toArray, List.getElem_cons_succ, List.getElem_cons_zero]) | (refine wpCan_yes rfl rfl (fun K hK => ?_); (first | ((refine still_ld _ _ rfl _ _ rfl _ HLB.out ?_); go_simp) | ((refine still_ld _ _ rfl _ _ rfl _ HLW.out ?_); go_simp) | go_simp); refine hK _ ?_; clear hK K)
          first | (refine wpCan_no rfl rfl ?_; simp only [Act.put, List.setIfInBounds_toArray, List.set_cons_succ, List.set_cons_zero, List.getElem_toArray, List.getElem_cons_succ, List.getElem_cons_zero]) | (refine wpCan_yes rfl rfl (fun K hK => ?_); (first | ((refine still_ld _ _ rfl _ _ rfl _ HLB.out ?_); go_simp) | ((refine still_ld _ _ rfl _ _ rfl _ HLW.out ?_); go_simp) | go_simp); refine hK _ ?_; clear hK K)
          first | (refine wpCan_no rfl rfl ?_; simp only [Act.put, List.setIfInBounds_toArray, List.set_cons_succ, List.set_cons_zero, List.getElem_toArray, List.getElem_cons_succ, List.getElem_cons_zero]) | (refine wpCan_yes rfl rfl (fun K hK => ?_); (first | ((refine still_ld _ _ rfl _ _ rfl _ HLB.out ?_); go_simp) | ((refine still_ld _ _ rfl _ _ rfl _ HLW.out ?_); go_simp) | go_simp); refine hK _ ?_; clear hK K)
          first | (refine wpCan_no rfl rfl ?_; simp only [Act.put, List.setIfInBounds_toArray, List.set_cons_succ, List.set_cons_zero, List.getElem_toArray, List.getElem_cons_succ, List.getElem_cons_zero]) | (refine wpCan_yes rfl rfl (fun K hK => ?_); (first | ((refine still_ld _ _ rfl _ _ rfl _ HLB.out ?_); go_simp) | ((refine still_ld _ _ rfl _ _ rfl _ HLW.out ?_); go_simp) | go_simp); refine hK _ ?_; clear hK K)
          first | (refine wpCan_no rfl rfl ?_; simp only [Act.put, List.setIfInBounds_toArray, List.set_cons_succ, List.set_cons_zero, List.getElem_toArray, List.getElem_cons_succ, List.getElem_cons_zero]) | (refine wpCan_yes rfl rfl (fun K hK => ?_); (first | ((refine still_ld _ _ rfl _ _ rfl _ HLB.out ?_); go_simp) | ((refine still_ld _ _ rfl _ _ rfl _ HLW.out ?_); go_simp) | go_simp); refine hK _ ?_; clear hK K)
          first | (refine wpCan_no rfl rfl ?_; simp only [Act.put, List.setIfInBounds_toArray, List.set_cons_succ, List.set_cons_zero, List.getElem_toArray, List.getElem_cons_succ, List.getElem_cons_zero]) | (refine wpCan_yes rfl rfl (fun K hK => ?_); (first | ((refine still_ld _ _ rfl _ _ rfl _ HLB.out ?_); go_simp) | ((refine still_ld _ _ rfl _ _ rfl _ HLW.out ?_); go_simp) | go_simp); refine hK _ ?_; clear hK K)
          first | (refine wpCan_no rfl rfl ?_; simp only [Act.put, List.setIfInBounds_toArray, List.set_cons_succ, List.set_cons_zero, List.getElem_toArray, List.getElem_cons_succ, List.getElem_cons_zero]) | (refine wpCan_yes rfl rfl (fun K hK => ?_); (first | ((refine still_ld _ _ rfl _ _ rfl _ HLB.out ?_); go_simp) | ((refine still_ld _ _ rfl _ _ rfl _ HLW.out ?_); go_simp) | go_simp); refine hK _ ?_; clear hK K)
          first | (refine wpCan_no rfl rfl ?_; simp only [Act.put, List.setIfInBounds_toArray, List.set_cons_succ, List.set_cons_zero, List.getElem_toArray, List.getElem_cons_succ, List.getElem_cons_zero]) | (refine wpCan_yes rfl rfl (fun K hK => ?_); (first | ((refine still_ld _ _ rfl _ _ rfl _ HLB.out ?_); go_simp) | ((refine still_ld _ _ rfl _ _ rfl _ HLW.out ?_); go_simp) | go_simp); refine hK _ ?_; clear hK K)
          first | (refine wpCan_no rfl rfl ?_; simp only [Act.put, List.setIfInBounds_toArray, List.set_cons_succ, List.set_cons_zero, List.getElem_toArray, List.getElem_cons_succ, List.getElem_cons_zero]) | (refine wpCan_yes rfl rfl (fun K hK => ?_); (first | ((refine still_ld _ _ rfl _ _ rfl _ HLB.out ?_); go_simp) | ((refine still_ld _ _ rfl _ _ rfl _ HLW.out ?_); go_simp) | go_simp); refine hK _ ?_; clear hK K)
          first | (refine wpCan_no rfl rfl ?_; simp only [Act.put, List.setIfInBounds_toArray, List.set_cons_succ, List.set_cons_zero, List.getElem_toArray, List.getElem_cons_succ, List.getElem_cons_zero]) | (refine wpCan_yes rfl rfl (fun K hK => ?_); (first | ((refine still_ld _ _ rfl _ _ rfl _ HLB.out ?_); go_simp) | ((refine still_ld _ _ rfl _ _ rfl _ HLW.out ?_); go_simp) | go_simp); refine hK _ ?_; clear hK K)
          refine wpCan_eff rfl ?_
          refine wpList_do rfl (fun K hK => ?_)
          go_simp
          refine HCF.out.mono ?_
          rintro e6 w6 ⟨rfl, hk6⟩
          have hs6 := HS4.out.drew.kept hk6
          clear hk6 HS4 HCF x0 d1 d2 d5 c0 c1 c2 c3 c4 c5 cf
          clear HLB HLW
          have x0 := (boxC (hs6.blk 0 rfl)).1
          obtain ⟨oa, oc, rfl⟩ := (hs6.front 8 rfl).own_shape
          obtain ⟨d6, d6f⟩ := cells1 (hs6.blk 7 rfl)
          refine hK _ _ ?_
          clear hK K
          refine wpList_nil ?_
          refine And.intro ?_ ?_
          · go_simp
          iterate 1 (refine wpCan_read rfl rfl (fun K hK => ?_); (first | ((refine still_ld _ _ rfl _ _ rfl _ HLB.out ?_); go_simp) | ((refine still_ld _ _ rfl _ _ rfl _ HLW.out ?_); go_simp) | go_simp); refine hK _ ?_; clear hK K)
          refine wpCan_nil ?_
          generalize hbt : out ++ blockToC zs o (entC en).c j = bt at *
          have HBT := Lib.hid hbt
          have hbl : bt.length ≤ 1000000 := by rw [← hbt, List.length_append]; omega
          clear hbt
          have HS10 := Lib.hid (show Sat B D (w6.alloc (.cells #[.int .i64 x.o] 3)) (ownS 3 1 (.slice oa bt.length oc) bt.length (bt.map (Value.int .i64)) :: blk w6.heap.size #[.int .i64 x.o] 3 :: blk bx (cellsC x).toArray tEnC :: qbC q hv (.slice (some ⟨gw, ow, none⟩) ws.length wc) :: entsC hv hs :: entsC (.slice (some ⟨gw, ow, none⟩) ws.length wc) ws :: blk b1 #[.int .i64 o] 3 :: blk b2 #[.pointer (some ⟨q, 0, none⟩)] 74 :: blk b5 #[.int .i64 k] 3 :: blk b6 #[.slice oa bt.length oc] 42 :: l) from (hs6.alloc _ _).front 9 rfl)
          have HRD := Lib.hid (rd_block (size := 1) (n := 1) (HS10.out.blk 1 rfl) rfl (by unfold maxLen; omega))
          clear hs6
          go_upto_region 5 with (at_builtin; refine wpList_append_Sat _ rfl _ _ 42 rfl 3 i0 _ 1 8 Tryz.underlying42 HI.out.1 HI.out.2.1 HI.out.2.2.1 HI.out.2.2.2 rfl _ bt.length _ rfl HS10.out _ 1 _ rfl HRD.out (by intro u hu; simp at hu; subst hu; rfl) (by unfold maxLen; omega) (by omega) ?_; intro v11 w11 hs11 h11; obtain ⟨va, vc, rfl⟩ := hs11.own_shape; clear h11 HS10 HRD x0 d6 d6f; obtain ⟨d6, d6f⟩ := cells1 (hs11.blk 9 rfl); have HS12 := Lib.hid (Sat.set1_C (hs11.front 9 rfl) (.slice va (bt.length + 1) vc)); clear hs11)
          obtain ⟨W12, hW12, hs12⟩ := Sat.hide HS12.out
          rw [← hW12]
          clear hW12 HS12 d6 d6f
          have HS12 := Lib.hid (show Sat B D W12 (noteLC q b1 b2 b5 b6 hv (.slice (some ⟨gw, ow, none⟩) ws.length wc) (.slice va (bt.length + 1) vc) hs ws o k (bt ++ [x.o]) l) by
            have h1 : Sat B D W12 (blk b6 #[.slice va (bt.length + 1) vc] 42 :: ownS 3 1 (.slice va (bt.length + 1) vc) (bt.length + 1) (bt.map (Value.int .i64) ++ [.int .i64 x.o]) :: blk w6.heap.size #[.int .i64 x.o] 3 :: blk bx (cellsC x).toArray tEnC :: qbC q hv (.slice (some ⟨gw, ow, none⟩) ws.length wc) :: entsC hv hs :: entsC (.slice (some ⟨gw, ow, none⟩) ws.length wc) ws :: blk b1 #[.int .i64 o] 3 :: blk b2 #[.pointer (some ⟨q, 0, none⟩)] 74 :: blk b5 #[.int .i64 k] 3 :: l) := hs12
            have h2 := h1.rm2.rm2
            show Sat B D W12 (_ :: _ :: _ :: _ :: _ :: _ :: _ :: ownS 3 1 _ (bt ++ [x.o]).length ((bt ++ [x.o]).map (Value.int .i64)) :: l)
            rw [List.length_append, List.map_append]
            exact h2.rot26)
          clear hs12
          go_wp2_with fail
          go_roundw
          case rel => exact ⟨j + 1, _, by go_num, by omega, by rw [HT.out, ← List.append_assoc, HBT.out]; exact HS12.out⟩
          case measure => simp [intOf]; omega
    · have hii : ¬ ((j : Int) < (N : Int)) := by omega
      have HJ := Lib.hid (show j = N by omega)
      rw [HJ.out] at HS2
      clear HJ
      go_wp2_with fail
      go_end0
      exact ⟨_, rfl, HS2.out⟩
theorem blockL_noneC {Q : Qm Clm} {o : Int} (h : waitAt Q.waits o = none) : blockL RC Q o = [] := by unfold blockL; rw [h]
theorem blockL_someC {Q : Qm Clm} {o : Int} {k : Nat} {e : Ent Clm} (h : waitAt Q.waits o = some k) (he : Q.waits[k]? = some e) : blockL RC Q o = ((Q.held ++ Q.waits.take k).filter (meetsE RC o e.c)).map (fun e => e.o) := by unfold blockL; rw [h]; dsimp only; rw [he]
set_option maxHeartbeats 8000000 in
theorem Blockers_C {B w : World} {D : PH} {l : List HP} {q : Nat} {Q : Qm Clm} (o : Int) (hD : EnvD D) (hM : Q.held.length + Q.waits.length ≤ 100000) (h : Sat B D w (queC D q Q :: l)) :
    Calls Tryz.prog 64 #[.pointer (some ⟨q, 0, none⟩), .int .i64 o] w fun r w' => ∃ u, r = .returned u ∧ Sat B D w' (intsP u (putAll (blockL RC Q o)) :: queC D q Q :: l) := by
  obtain ⟨W0, hW0, hs0⟩ := two_new h #[.pointer (some ⟨q, 0, none⟩)] #[.int .i64 o] 74 3
  have hs1 : Sat B D W0 (queC D q Q :: blk w.heap.size #[.pointer (some ⟨q, 0, none⟩)] 74 :: blk (w.heap.size + 1) #[.int .i64 o] 3 :: l) := hs0.front 2 rfl
  have HW0 := Lib.hid hW0
  have HS0 := Lib.hid hs1
  have HW := Lib.hid (waiting_C o hs1)
  have HD := Lib.hid hD
  obtain ⟨d2, _⟩ := cells1 (hs1.blk 1 rfl)
  obtain ⟨d1, _⟩ := cells1 (hs1.blk 2 rfl)
  clear h hW0 hs0 hs1 hD
  cases hwa : waitAt Q.waits o with
  | none =>
    have HR := Lib.hid (show putAll (blockL RC Q o) = [] by rw [blockL_noneC hwa]; rfl)
    have hk : idxI (ofE o) Q.waits = -1 := by
      unfold waitAt at hwa
      unfold idxI; rw [hwa]
    rw [hk] at HW
    clear hwa hk
    go_enter Tryz.func64, Tryz.ntmps64
    go_upto_region 1 with fail
    rw [← HW0.out]
    clear HW0
    generalize w.heap.size + 1 = b1 at *
    generalize w.heap.size = b2 at *
    go_wp2_with (go_at_call 82; refine HW.out.mono ?_; rintro e1 w1 ⟨rfl, hk1⟩; have HS1 := Lib.hid (HS0.out.kept hk1); clear hk1 HW HS0 d1 d2)
    go_ret
    refine ⟨_, rfl, ?_⟩
    rw [HR.out]
    exact ((HS1.out.alloc _ _).drop.rm2.swap.drop).own_nil 3 1
  | some k =>
    have hlt : k < Q.waits.length := by
      unfold waitAt at hwa
      exact (List.findIdx?_eq_some_iff_getElem.1 hwa).1
    have hk : idxI (ofE o) Q.waits = (k : Int) := by
      unfold waitAt at hwa
      unfold idxI; rw [hwa]
    rw [hk] at HW
    obtain ⟨y, hy⟩ : ∃ y, Q.waits[k]? = some y := ⟨Q.waits[k], List.getElem?_eq_getElem hlt⟩
    have HBL := Lib.hid (blockL_someC hwa hy)
    have HY := Lib.hid hy
    clear hwa hk hy
    go_enter Tryz.func64, Tryz.ntmps64
    go_upto_region 1 with fail
    rw [← HW0.out]
    clear HW0
    generalize w.heap.size + 1 = b1 at *
    generalize w.heap.size = b2 at *
    go_upto_region 4 with (go_at_call 82; refine HW.out.mono ?_; rintro e1 w1 ⟨rfl, hk1⟩; have HS1 := Lib.hid ((HS0.out.kept hk1).alloc #[.int .i64 k] 3); clear hk1 HW HS0 d1 d2)
    obtain ⟨W2, hW2, hs2⟩ := Sat.hide HS1.out
    rw [← hW2]
    clear hW2 HS1
    generalize w1.heap.size = b5 at hs2 ⊢
    have HS3 := Lib.hid (hs2.alloc #[.slice none 0 0] 42)
    obtain ⟨d5, _⟩ := cells1 (hs2.blk 0 rfl)
    clear hs2
    go_upto_region 7 with fail
    obtain ⟨W3, hW3, hs3⟩ := Sat.hide HS3.out
    rw [← hW3]
    clear hW3 HS3 d5
    generalize W2.heap.size = b6 at hs3 ⊢
    have hs4 : Sat B D W3 (queC D q Q :: intsP (.slice none 0 0) [] :: blk b6 #[.slice none 0 0] 42 :: blk b5 #[.int .i64 k] 3 :: blk b2 #[.pointer (some ⟨q, 0, none⟩)] 74 :: blk b1 #[.int .i64 o] 3 :: l) := (hs3.own_nil 3 1).front 3 rfl
    clear hs3
    obtain ⟨hv, wv, hs, ws, hr1, hr2, h1⟩ := queOpen_C hs4
    obtain ⟨ha, hc, rfl⟩ := (h1.front 1 rfl).own_shape
    obtain ⟨wa, wc, rfl⟩ := (h1.front 2 rfl).own_shape
    obtain ⟨en, hen, hene⟩ : ∃ x, ws[k]? = some x ∧ entC x = y := by
      have hx0 := HY.out
      rw [← hr2.1, List.getElem?_map] at hx0
      cases hxx : ws[k]? with
      | none => rw [hxx] at hx0; cases hx0
      | some x => rw [hxx] at hx0; exact ⟨x, rfl, Option.some.inj hx0⟩
    have hl1 : hs.length = Q.held.length := by rw [← hr1.1, List.length_map]
    have hl2 : ws.length = Q.waits.length := by rw [← hr2.1, List.length_map]
    have hkw : k < ws.length := by omega
    have hlb : hs.length + ws.length ≤ 100000 := by omega
    clear hl1 hl2
    have h2 : Sat B D W3 (noteLC q b1 b2 b5 b6 (.slice ha hs.length hc) (.slice wa ws.length wc) (.slice none 0 0) hs ws o k [] l) := h1.rev5
    have HEN := Lib.hid hen
    have HENE := Lib.hid hene
    have HR1 := Lib.hid hr1
    have HR2 := Lib.hid hr2
    have HN1 := Lib.hid (note_C (av := .slice ha hs.length hc) (zs := hs) HD.out
      hr1.2 (hr2.2 en (List.mem_of_getElem? hen))
      hen (by rw [List.length_nil]; omega) (fun W Y hY => (hY.own 1 rfl).rd) h2)
    have hbl1 : ([] ++ blockToC hs o (entC en).c hs.length).length ≤ hs.length := by rw [List.nil_append]; exact blockToC_le _ _ _ _
    obtain ⟨c0, c1, c2, c3, c4, c5, cf⟩ := cells6 (h2.blk 0 rfl)
    obtain ⟨d2, _⟩ := cells1 (h2.blk 4 rfl)
    clear h1 h2 hs4 hr1 hr2 hen hene
    go_upto_region 9 with (go_at_call 105; refine HN1.out.mono ?_; rintro e5 w5 ⟨ov5, rfl, hs5⟩; have HS5 := Lib.hid hs5; clear hs5 HN1 c0 c1 c2 c3 c4 c5 cf d2)
    have HN2 := Lib.hid (note_C (w := w5.drew) (av := .slice wa k wc) (zs := ws.take k) HD.out
      (fun x hx => HR2.out.2 x (List.mem_of_mem_take hx)) (HR2.out.2 en (List.mem_of_getElem? HEN.out))
      HEN.out (by rw [List.length_take]; omega) (fun W Y hY => Rd.takeE lenC (hY.own 2 rfl).rd (m := k) (by omega) rfl) HS5.out.drew)
    obtain ⟨c0, c1, c2, c3, c4, c5, cf⟩ := cells6 (HS5.out.blk 0 rfl)
    obtain ⟨d2, _⟩ := cells1 (HS5.out.blk 4 rfl)
    obtain ⟨d5, _⟩ := cells1 (HS5.out.blk 5 rfl)
    have hws : ws.length ≤ wc := by obtain ⟨_, _, _, _, hx, hy, _⟩ := (HS5.out.own 2 rfl).rd; cases hx; exact hy
    have hb1 : (k : Int) ≤ (wc : Int) := by omega
    have hmap : Option.map (fun x => Addr.add x 0) wa = wa := by rcases (HS5.out.own 2 rfl).2.2 with ⟨hx, _⟩ | ⟨g, c2, cur, hx, _⟩ <;> rw [(Value.slice.inj hx).1] <;> first | rfl | simp [add_none]
    generalize hnw : ws.length = nw at c5
    have hbl2 : ([] ++ blockToC hs o (entC en).c hs.length ++ blockToC (ws.take k) o (entC en).c (ws.take k).length).length ≤ 1000000 := by
      rw [List.length_append, List.nil_append]
      have h0 := blockToC_le hs o (entC en).c hs.length
      have := blockToC_le (ws.take k) o (entC en).c (ws.take k).length
      rw [List.length_take] at this
      rw [List.length_take]
      omega
    have HOUT := Lib.hid (show [] ++ blockToC hs o (entC en).c hs.length ++ blockToC (ws.take k) o (entC en).c (ws.take k).length = blockL RC Q o by
      rw [HBL.out, List.nil_append]
      unfold blockToC
      rw [List.take_length, List.take_length, HR1.out.1, List.map_take, HR2.out.1, HENE.out, List.filter_append, List.map_append])
    clear hws hnw hbl1
    refine wp_region_canon [(0, false, 7), (1, false, 7), (2, false, 7), (3, false, 7), (4, false, 7), (5, false, 7), (6, false, 7), (7, true, 0)] (by kernel_rfl) (by kernel_rfl) ?_
    iterate 7 (refine wpCan_read rfl rfl (fun K hK => ?_); go_simp; refine hK _ ?_; clear hK K)
    refine wpCan_eff rfl ?_
    refine wpList_do rfl (fun K hK => ?_)
    go_simp
    refine HN2.out.mono ?_
    rintro e6 w6 ⟨ov6, rfl, hs6⟩
    have HS6 := Lib.hid hs6
    clear hs6 HN2 HS5 c0 c1 c2 c3 c4 c5 cf d2 d5 hb1 hmap
    obtain ⟨oa, oc, rfl⟩ := (HS6.out.front 7 rfl).own_shape
    refine hK _ _ ?_
    clear hK K
    refine wpList_nil ?_
    refine And.intro ?_ ?_
    · go_simp
    refine wpCan_nil ?_
    rw [HOUT.out] at HS6 hbl2
    obtain ⟨bl, hbl⟩ : ∃ bl, bl = blockL RC Q o := ⟨_, rfl⟩
    rw [← hbl] at HS6 hbl2
    have HBLE := Lib.hid hbl
    clear hbl HOUT HBL
    obtain ⟨d6, _⟩ := cells1 (HS6.out.blk 6 rfl)
    have hs7 := HS6.out.front 7 rfl
    have HSO := Lib.hid (sort_int (by omega) hs7)
    clear hs7 HS6
    go_upto_region 11 with (go_at_call 106; refine HSO.out.mono ?_; rintro e7 w7 ⟨rfl, hs8⟩; have HS8 := Lib.hid hs8; clear hs8 HSO d6)
    obtain ⟨d6, _⟩ := cells1 (HS8.out.blk 7 rfl)
    have HCO := Lib.hid (compact_int (by omega) HS8.out)
    clear HS8
    go_wp2_with (go_at_call 107; refine HCO.out.mono ?_; rintro e8 w8 ⟨u, rfl, hs9⟩; have HS9 := Lib.hid hs9; clear hs9 HCO d6)
    go_ret
    have h9 : Sat B D w8 (intsP u (putAll bl) :: qbC q (.slice ha hs.length hc) (.slice wa ws.length wc) :: entsC (.slice ha hs.length hc) hs :: entsC (.slice wa ws.length wc) ws :: blk b1 #[.int .i64 o] 3 :: blk b2 #[.pointer (some ⟨q, 0, none⟩)] 74 :: blk b5 #[.int .i64 k] 3 :: blk b6 #[.slice oa _ oc] 42 :: l) := HS9.out
    refine ⟨_, rfl, ?_⟩
    rw [← HBLE.out]
    exact (queShut_C HR1.out HR2.out h9.end8).swap
end Go.Proofs.YtgljdkjepdknnaaGreatDoor
