/- The store: contracts of what is done to it (printed by genst6.py). -/
import Derived.Test.YtcbklkcpjldcjaaJ29
namespace Go.Proofs.Ytcbklkcpjldcjaa
open Go.ChangeShapes Go.WideShapes Go.ChangeAt Go.RowKit
set_option maxRecDepth 100000
set_option linter.unusedSimpArgs false

section
variable {B w w' : World} {D : PH} {s n n' : Nat} {A : StM} {l : List HP}
theorem bareOpen (h : Sat B D w (storeB s n A :: l)) : ∃ M : StM, M.bare = A ∧ Sat B D w (storeG s n M :: l) := Sat.open_ex h
theorem bareClose {M : StM} (h : Sat B D w (storeG s n M :: l)) : Sat B D w (storeB s n M.bare :: l) := Sat.close_ex M rfl h
theorem bareMore (hn : n ≤ n') (h : Sat B D w (storeB s n A :: l)) : Sat B D w (storeB s n' A :: l) := by
  obtain ⟨M, rfl, hs⟩ := bareOpen h
  exact bareClose (storeG_more hn hs)
end
/-- what was told of the state without headers, of one with them -/
theorem StI.of_bare {n : Nat} {M : StM} (h : StI n M.bare) : StGood M := good_bare h.good
theorem bare_tabs {M : StM} {j : Nat} {m : TabM} (h : M.bare.tabs[j]? = some m) : ∃ m', M.tabs[j]? = some m' ∧ m = bareT m' := by
  unfold StM.bare at h
  dsimp only at h
  rw [List.getElem?_map] at h
  cases hm : M.tabs[j]? with
  | none => rw [hm] at h; cases h
  | some m' => rw [hm] at h; cases h; exact ⟨m', rfl, rfl⟩

/-- a tree of a store: a place is put in -/
theorem tree_put {B w : World} {D : PH} {s n i t : Nat} {M : StM} {x : StH} {l : List HP} {m : TabM} {k : Val} {p : PlM} (hx : StOk M x) (hm : M.tabs[i]? = some m) (ht : x.ts[i]? = some t) (hn : n ≤ 500) (hk : valRight k = true) (h : Sat B D w (stL s n M x ++ (plP (k, p) :: l))) :
    Calls Try.prog 39 #[.pointer (some ⟨t, 0, none⟩), k.v, p.s.v] w fun e w' => e = .returned (.bool (!hasK (tl m) k)) ∧ StOk { M with tabs := M.tabs.set i (insM m k p) } x ∧ Sat B D w' (stL s (n + 1) { M with tabs := M.tabs.set i (insM m k p) } x ++ l) := by
  obtain ⟨T, ⟨hG, hSm⟩, hsT⟩ := Sat.open_ex (st_focus hm ht h)
  refine (Put_ok k p.s hG hSm hn (treeOpen hsT)).mono ?_
  rintro e5 w5 ⟨T5, rfl, ha5, hn5⟩
  have hput : putL (tl m) k p.s = tl (insM m k p) := by
    unfold putL
    rw [hk, if_pos rfl]
    exact tl_ins m k p
  have hsm5 := hn5.small hSm
  have hgd5 := hn5.good
  rw [hput] at hsm5 hgd5
  have hg5 : Sat B D w5 (group (m.map plP) :: plP (k, p) :: treeG t T5 :: (stRest s n M x i ++ l)) :=
    (ha5.close.swap.perm (List.perm_middle (l₁ := group (m.map plP) :: treeG t T5 :: stRest s n M x i) (a := plP (k, p)) (l₂ := l))).swap
  have ht6 : Sat B D w5 (tabG (n + 1) t (insM m k p) :: (stRest s n M x i ++ l)) := Sat.close_ex T5 ⟨hgd5, hsm5⟩ (grp_ins hg5).swap
  exact ⟨by unfold putB; rw [hk]; rfl, st_unfocus hx hm ht (Nat.le_succ n) ht6⟩
/-- and taken out -/
theorem tree_del {B w : World} {D : PH} {s n i t : Nat} {M : StM} {x : StH} {l : List HP} {m : TabM} {k : Val} (hx : StOk M x) (hm : M.tabs[i]? = some m) (ht : x.ts[i]? = some t) (hn : n ≤ 500) (hk : valRight k = true) (h : Sat B D w (stL s n M x ++ l)) :
    Calls Try.prog 38 #[.pointer (some ⟨t, 0, none⟩), k.v] w fun e w' => e = .returned (.bool (hasK (tl m) k)) ∧ StOk { M with tabs := M.tabs.set i (delM m k) } x ∧ Sat B D w' (stL s (n + 1) { M with tabs := M.tabs.set i (delM m k) } x ++ l) := by
  obtain ⟨T, ⟨hG, hSm⟩, hsT⟩ := Sat.open_ex (st_focus hm ht h)
  refine (Delete_ok k hG hSm hn (treeOpen hsT)).mono ?_
  rintro e5 w5 ⟨T5, rfl, ha5, hn5⟩
  have hrem : remL (tl m) k = tl (delM m k) := by
    unfold remL
    rw [hk, if_pos rfl]
    exact tl_del m k
  have hsm5 := hn5.small hSm
  have hgd5 := hn5.good
  rw [hrem] at hsm5 hgd5
  have hg5 : Sat B D w5 (group ((delM m k).map plP) :: treeG t T5 :: (stRest s n M x i ++ l)) := plP_mono ha5.close.swap
  have ht6 : Sat B D w5 (tabG (n + 1) t (delM m k) :: (stRest s n M x i ++ l)) := Sat.close_ex T5 ⟨hgd5, hsm5⟩ hg5.swap
  exact ⟨by unfold remB; rw [hk]; rfl, st_unfocus hx hm ht (Nat.le_succ n) ht6⟩

set_option maxHeartbeats 4000000 in
theorem Insert_ok {B w : World} {D : PH} {s n : Nat} {A : StM} {l : List HP} (i : Int) {rv : Value} {r : List Val} (hI : StI n A) (hn : n ≤ 400) (hr : ∀ (W : World) (X : HP), Sat B D W (X :: l) → RowRd W rv r) (h : Sat B D w (storeB s n A :: l)) :
    Calls Try.prog 11 #[.pointer (some ⟨s, 0, none⟩), .int .i64 i, rv] w fun e w' => e = .returned (.tuple #[.int .i64 (A.ins i r).2.1, .int .i64 (A.ins i r).2.2]) ∧ Sat B D w' (storeB s (n + 1) (A.ins i r).1 :: l) := by
  obtain ⟨M, rfl, hs⟩ := bareOpen h
  have HFT := Lib.hid (sfits_ok i (hr _ _ hs) hs)
  cases hf : M.fits i r
  · have HF := Lib.hid hf
    have HE := Lib.hid (show M.bare.ins i r = (M.bare, 0, 1) by unfold StM.ins; rw [bare_fits, hf]; rfl)
    have HS := Lib.hid hs
    clear hf hs h hI hr
    go_enter Try.func11, Try.ntmps11
    go_wp2_with (go_at_call 30; refine HFT.out.mono ?_; rw [HF.out]; rintro e1 w1 ⟨rfl, hk1⟩; have HK1 := Lib.hid hk1; clear hk1)
    go_ret2
    rw [HE.out]
    exact ⟨rfl, bareMore (Nat.le_succ n) (bareClose (HS.out.kept HK1.out))⟩
  · obtain ⟨j, c, m0, rfl, hj, hc, hm0, htab, hok, hsrt, hrgt, hft, hhd, hkr, hrl⟩ := fits_key hI (show M.bare.fits i r = true from hf)
    obtain ⟨m, hm, rfl⟩ := bare_tabs hm0
    have hc : M.cols[j]? = some c := hc
    have hokm : TabOk c m := tabOk_bare.1 hok
    have h0 : r[0]? = some (keyOf r) := by rw [← List.head?_eq_getElem?]; exact hhd
    obtain ⟨ao, rc, rfl⟩ : ∃ ao rc, rv = .slice ao r.length rc := by obtain ⟨_, _, ao, rc, h, _⟩ := hr _ _ hs; exact ⟨ao, rc, h⟩
    obtain ⟨rg, rog, rfl⟩ := row_src (hr _ _ hs) h0 rfl
    have hlen2 : 0 < r.length := (List.getElem?_eq_some_iff.1 h0).1
    have hlen : (0 : Int) < (r.length : Int) := by omega
    have hunf : M.bare.ins (j : Int) r = (if takenM (bareT m) (keyOf r) then (M.bare, 0, 60) else if !keptM (bareT m) (keyOf r) && decide (M.bare.room ≤ M.bare.used) then (M.bare, 0, 62) else (putM { M.bare with last := M.bare.last + 1 } j (bareT m) (keyOf r) (plB false (M.bare.last + 1) r), M.bare.last + 1, 0)) := by
      unfold StM.ins
      rw [bare_fits, hf, if_pos rfl, htab]
      rfl
    rw [bare_taken, bare_kept] at hunf
    generalize hkk : keyOf r = k at *
    have hbnd : 0 ≤ M.used ∧ M.used ≤ 40 := by
      have h1 := hI.used
      have h2 := hI.full
      have h3 := hI.room
      have h4 : M.bare.used = M.used := rfl
      have h5 : M.bare.room = M.room := rfl
      omega
    have hlast : 0 ≤ M.last ∧ M.last ≤ (n : Int) := hI.last
    have HF := Lib.hid hf
    have HS := Lib.hid hs
    have HR := Lib.hid hr
    have H0 := Lib.hid h0
    have HM := Lib.hid hm
    have HC := Lib.hid hc
    have HU := Lib.hid hunf
    have HHD := Lib.hid hhd
    have HKR := Lib.hid hkr
    have HAT := Lib.hid (fun (W : World) (h : Sat B D W (storeG s n M :: l)) => at_ok k hm hokm h)
    clear hf hs h hI hr hc hm0 htab hok hsrt hrgt hft hhd hkr hm hokm h0 hunf hkk
    go_enter Try.func11, Try.ntmps11
    go_upto_region 3 with (go_at_call 30; refine HFT.out.mono ?_; rw [HF.out]; rintro e1 w1 ⟨rfl, hk1⟩; have HK1 := Lib.hid hk1; clear hk1)
    have hr1 := HR.out _ _ (HS.out.kept HK1.out)
    have HS1 := Lib.hid (HS.out.kept HK1.out)
    have HA := Lib.hid (HAT.out w1 (HS.out.kept HK1.out))
    obtain ⟨y0, y1, y2⟩ := key_cells hr1 H0.out
    simp only [Nat.zero_mul, Nat.add_zero] at y0 y1 y2
    clear hr1 HS HFT
    go_upto_region 4 with (go_at_call 31; refine HA.out.mono ?_; rintro e2 w2 ⟨rfl, hk2⟩; have HK2 := Lib.hid hk2; clear hk2 y0 y1 y2)
    have hk3 : Kept (fun _ => False) w2 (w2.alloc (.cells #[.bool (slotM m k).kept, .int .i64 (slotM m k).num, .slice (slotM m k).ro (slotM m k).rn (slotM m k).rc] tW)) := (Kept.refl _ _).alloc _
    have hb3 := heap_alloc_self w2 (.cells #[.bool (slotM m k).kept, .int .i64 (slotM m k).num, .slice (slotM m k).ro (slotM m k).rn (slotM m k).rc] tW)
    have hk13 := HK2.out.trans hk3 (fun _ h => h.elim)
    obtain ⟨W3, hW3⟩ : ∃ W3, W3 = w2.alloc (.cells #[.bool (slotM m k).kept, .int .i64 (slotM m k).num, .slice (slotM m k).ro (slotM m k).rn (slotM m k).rc] tW) := ⟨_, rfl⟩
    rw [← hW3] at hb3 hk13
    rw [← hW3]
    generalize w2.heap.size = b9 at hb3 ⊢
    obtain ⟨q0, q1, q2, qf⟩ := cells3 hb3
    have HS3 := Lib.hid (HS1.out.kept hk13)
    clear hk3 hW3 hb3 hk13 HA HAT HS1 HK1 HK2
    cases htk : takenM m k
    · rw [htk, if_neg (by simp)] at HU
      clear htk
      cases hkp : keptM m k
      · rw [hkp] at HU
        clear hkp
        by_cases hrm : M.room ≤ M.used
        · have HE := Lib.hid (show M.bare.ins (j : Int) r = (M.bare, 0, 62) by rw [HU.out]; simp [show M.bare.room ≤ M.bare.used from hrm])
          clear HU
          obtain ⟨x, hx, hs⟩ := storeOpen HS3.out
          obtain ⟨t0, t1, t2, t3, t4, tf⟩ := st_cells hs
          clear hs hx
          have hge : M.used ≥ M.room := hrm
          go_upto_region 6 with fail
          refine wp_region_canon [(0, false, 999), (1, false, 999), (2, false, 999), (3, false, 999), (4, false, 999), (5, false, 999), (6, false, 999), (7, false, 999), (8, false, 999), (9, false, 999), (10, false, 999), (11, false, 999), (12, false, 999)] (by kernel_rfl) (by kernel_rfl) ?_
          iterate 3 (refine wpCan_read rfl rfl (fun K hK => ?_); go_simp; refine hK _ ?_; clear hK K)
          first | (refine wpCan_no rfl rfl ?_; simp only [Act.put, List.setIfInBounds_toArray, List.set_cons_succ, List.set_cons_zero, List.getElem_toArray, List.getElem_cons_succ, List.getElem_cons_zero]) | (refine wpCan_yes rfl rfl (fun K hK => ?_); go_simp; refine hK _ ?_; clear hK K)
          first | (refine wpCan_no rfl rfl ?_; simp only [Act.put, List.setIfInBounds_toArray, List.set_cons_succ, List.set_cons_zero, List.getElem_toArray, List.getElem_cons_succ, List.getElem_cons_zero]) | (refine wpCan_yes rfl rfl (fun K hK => ?_); go_simp; refine hK _ ?_; clear hK K)
          first | (refine wpCan_no rfl rfl ?_; simp only [Act.put, List.setIfInBounds_toArray, List.set_cons_succ, List.set_cons_zero, List.getElem_toArray, List.getElem_cons_succ, List.getElem_cons_zero]) | (refine wpCan_yes rfl rfl (fun K hK => ?_); go_simp; refine hK _ ?_; clear hK K)
          first | (refine wpCan_no rfl rfl ?_; simp only [Act.put, List.setIfInBounds_toArray, List.set_cons_succ, List.set_cons_zero, List.getElem_toArray, List.getElem_cons_succ, List.getElem_cons_zero]) | (refine wpCan_yes rfl rfl (fun K hK => ?_); go_simp; refine hK _ ?_; clear hK K)
          first | (refine wpCan_no rfl rfl ?_; simp only [Act.put, List.setIfInBounds_toArray, List.set_cons_succ, List.set_cons_zero, List.getElem_toArray, List.getElem_cons_succ, List.getElem_cons_zero]) | (refine wpCan_yes rfl rfl (fun K hK => ?_); go_simp; refine hK _ ?_; clear hK K)
          first | (refine wpCan_no rfl rfl ?_; simp only [Act.put, List.setIfInBounds_toArray, List.set_cons_succ, List.set_cons_zero, List.getElem_toArray, List.getElem_cons_succ, List.getElem_cons_zero]) | (refine wpCan_yes rfl rfl (fun K hK => ?_); go_simp; refine hK _ ?_; clear hK K)
          first | (refine wpCan_no rfl rfl ?_; simp only [Act.put, List.setIfInBounds_toArray, List.set_cons_succ, List.set_cons_zero, List.getElem_toArray, List.getElem_cons_succ, List.getElem_cons_zero]) | (refine wpCan_yes rfl rfl (fun K hK => ?_); go_simp; refine hK _ ?_; clear hK K)
          first | (refine wpCan_no rfl rfl ?_; simp only [Act.put, List.setIfInBounds_toArray, List.set_cons_succ, List.set_cons_zero, List.getElem_toArray, List.getElem_cons_succ, List.getElem_cons_zero]) | (refine wpCan_yes rfl rfl (fun K hK => ?_); go_simp; refine hK _ ?_; clear hK K)
          first | (refine wpCan_no rfl rfl ?_; simp only [Act.put, List.setIfInBounds_toArray, List.set_cons_succ, List.set_cons_zero, List.getElem_toArray, List.getElem_cons_succ, List.getElem_cons_zero]) | (refine wpCan_yes rfl rfl (fun K hK => ?_); go_simp; refine hK _ ?_; clear hK K)
          iterate 1 (refine wpCan_read rfl rfl (fun K hK => ?_); go_simp; refine hK _ ?_; clear hK K)
          refine wpCan_nil ?_
          go_wp2_with fail
          go_ret2
          rw [HE.out]
          exact ⟨rfl, bareMore (Nat.le_succ n) (bareClose HS3.out.drew)⟩
        · have HE := Lib.hid (show M.bare.ins (j : Int) r = (putM { M.bare with last := M.bare.last + 1 } j (bareT m) k (plB false (M.bare.last + 1) r), M.bare.last + 1, 0) by rw [HU.out]; simp [show ¬ (M.bare.room ≤ M.bare.used) from hrm])
          clear HU
          obtain ⟨x, hx, hs⟩ := storeOpen HS3.out
          obtain ⟨t0, t1, t2, t3, t4, tf⟩ := st_cells hs
          have hge : ¬ (M.used ≥ M.room) := hrm
          clear hs hx
          go_upto_region 6 with fail
          refine wp_region_canon [(0, false, 999), (1, false, 999), (2, false, 999), (3, false, 999), (4, false, 999), (5, false, 999), (6, false, 999), (7, false, 999), (8, false, 999), (9, false, 999), (10, false, 999), (11, false, 999), (12, false, 999)] (by kernel_rfl) (by kernel_rfl) ?_
          iterate 3 (refine wpCan_read rfl rfl (fun K hK => ?_); go_simp; refine hK _ ?_; clear hK K)
          first | (refine wpCan_no rfl rfl ?_; simp only [Act.put, List.setIfInBounds_toArray, List.set_cons_succ, List.set_cons_zero, List.getElem_toArray, List.getElem_cons_succ, List.getElem_cons_zero]) | (refine wpCan_yes rfl rfl (fun K hK => ?_); go_simp; refine hK _ ?_; clear hK K)
          first | (refine wpCan_no rfl rfl ?_; simp only [Act.put, List.setIfInBounds_toArray, List.set_cons_succ, List.set_cons_zero, List.getElem_toArray, List.getElem_cons_succ, List.getElem_cons_zero]) | (refine wpCan_yes rfl rfl (fun K hK => ?_); go_simp; refine hK _ ?_; clear hK K)
          first | (refine wpCan_no rfl rfl ?_; simp only [Act.put, List.setIfInBounds_toArray, List.set_cons_succ, List.set_cons_zero, List.getElem_toArray, List.getElem_cons_succ, List.getElem_cons_zero]) | (refine wpCan_yes rfl rfl (fun K hK => ?_); go_simp; refine hK _ ?_; clear hK K)
          first | (refine wpCan_no rfl rfl ?_; simp only [Act.put, List.setIfInBounds_toArray, List.set_cons_succ, List.set_cons_zero, List.getElem_toArray, List.getElem_cons_succ, List.getElem_cons_zero]) | (refine wpCan_yes rfl rfl (fun K hK => ?_); go_simp; refine hK _ ?_; clear hK K)
          first | (refine wpCan_no rfl rfl ?_; simp only [Act.put, List.setIfInBounds_toArray, List.set_cons_succ, List.set_cons_zero, List.getElem_toArray, List.getElem_cons_succ, List.getElem_cons_zero]) | (refine wpCan_yes rfl rfl (fun K hK => ?_); go_simp; refine hK _ ?_; clear hK K)
          first | (refine wpCan_no rfl rfl ?_; simp only [Act.put, List.setIfInBounds_toArray, List.set_cons_succ, List.set_cons_zero, List.getElem_toArray, List.getElem_cons_succ, List.getElem_cons_zero]) | (refine wpCan_yes rfl rfl (fun K hK => ?_); go_simp; refine hK _ ?_; clear hK K)
          first | (refine wpCan_no rfl rfl ?_; simp only [Act.put, List.setIfInBounds_toArray, List.set_cons_succ, List.set_cons_zero, List.getElem_toArray, List.getElem_cons_succ, List.getElem_cons_zero]) | (refine wpCan_yes rfl rfl (fun K hK => ?_); go_simp; refine hK _ ?_; clear hK K)
          first | (refine wpCan_no rfl rfl ?_; simp only [Act.put, List.setIfInBounds_toArray, List.set_cons_succ, List.set_cons_zero, List.getElem_toArray, List.getElem_cons_succ, List.getElem_cons_zero]) | (refine wpCan_yes rfl rfl (fun K hK => ?_); go_simp; refine hK _ ?_; clear hK K)
          first | (refine wpCan_no rfl rfl ?_; simp only [Act.put, List.setIfInBounds_toArray, List.set_cons_succ, List.set_cons_zero, List.getElem_toArray, List.getElem_cons_succ, List.getElem_cons_zero]) | (refine wpCan_yes rfl rfl (fun K hK => ?_); go_simp; refine hK _ ?_; clear hK K)
          iterate 1 (refine wpCan_read rfl rfl (fun K hK => ?_); go_simp; refine hK _ ?_; clear hK K)
          refine wpCan_nil ?_
          go_upto_region 8 with fail
          obtain ⟨W4, hW4⟩ : ∃ W4, W4 = W3.drew := ⟨_, rfl⟩
          have hd4 : Kept (fun _ => False) W3 W4 := by rw [hW4]; exact (Kept.refl _ _).drew
          rw [← hW4]
          have hs4 := HS3.out.kept hd4
          clear hW4 hd4 HS3 t0 t1 t2 t3 t4 tf q0 q1 q2 qf
          obtain ⟨x, hx, hs⟩ := storeOpen hs4
          obtain ⟨t0, t1, t2, t3, t4, tf⟩ := st_cells hs
          have hwl : IntKind.i64.wrap (M.last + 1) = M.last + 1 := i64w _ (by omega) (by omega)
          have hs5 : Sat B D (W4.setCell ⟨s, 4, none⟩ (.int .i64 (M.last + 1))) (stL s n { M with last := M.last + 1 } x ++ l) := Sat.modify hs 0 rfl (fun _ h => h.set 4 (.int .i64 (M.last + 1)))
          have hrn : r.length ≤ 1000 := by omega
          have HS5 := Lib.hid (storeClose (M := { M with last := M.last + 1 }) hx hs5)
          have HX := Lib.hid hx
          have HS5x := Lib.hid hs5
          clear hs hs4 hs5 hx
          go_upto_region 9 with fail
          obtain ⟨W5, hW5, hs5⟩ := Sat.hide HS5x.out
          rw [← hW5] at HS5
          rw [← hW5]
          clear hW5 HS5x t0 t1 t2 t3 t4 tf
          obtain ⟨t0, t1, t2, t3, t4, tf⟩ := st_cells hs5
          dsimp only at t4
          have HP := Lib.hid (sput_ok (M := { M with last := M.last + 1 }) (M.last + 1) HM.out (by omega) (by dsimp only; omega) HHD.out HKR.out hrn (HR.out _ _ HS5.out) HS5.out)
          clear hs5
          go_upto_region 10 with (go_at_call 32; refine HP.out.mono ?_; rintro e6 w6 ⟨rfl, o6, a6, b6, hs6⟩; have HS6 := Lib.hid hs6; clear hs6 t0 t1 t2 t3 t4 tf)
          obtain ⟨x, hx, hs⟩ := storeOpen HS6.out
          obtain ⟨t0, t1, t2, t3, t4, tf⟩ := st_cells hs
          have t4 : w6.cell? ⟨s, 4, none⟩ = some (.int .i64 (M.last + 1)) := t4
          clear hs hx
          go_wp2_with fail
          go_ret2
          rw [HE.out]
          have hfin := bareClose HS6.out
          rw [bare_put] at hfin
          exact ⟨rfl, hfin⟩
      · rw [hkp] at HU
        clear hkp
        have HE := Lib.hid (show M.bare.ins (j : Int) r = (putM { M.bare with last := M.bare.last + 1 } j (bareT m) k (plB false (M.bare.last + 1) r), M.bare.last + 1, 0) by rw [HU.out]; simp)
        clear HU
        obtain ⟨x, hx, hs⟩ := storeOpen HS3.out
        obtain ⟨t0, t1, t2, t3, t4, tf⟩ := st_cells hs
        clear hs hx
        go_upto_region 6 with fail
        refine wp_region_canon [(0, false, 999), (1, false, 999), (2, false, 999), (3, false, 999), (4, false, 999), (5, false, 999), (6, false, 999), (7, false, 999), (8, false, 999), (9, false, 999), (10, false, 999), (11, false, 999), (12, false, 999)] (by kernel_rfl) (by kernel_rfl) ?_
        iterate 3 (refine wpCan_read rfl rfl (fun K hK => ?_); go_simp; refine hK _ ?_; clear hK K)
        first | (refine wpCan_no rfl rfl ?_; simp only [Act.put, List.setIfInBounds_toArray, List.set_cons_succ, List.set_cons_zero, List.getElem_toArray, List.getElem_cons_succ, List.getElem_cons_zero]) | (refine wpCan_yes rfl rfl (fun K hK => ?_); go_simp; refine hK _ ?_; clear hK K)
        first | (refine wpCan_no rfl rfl ?_; simp only [Act.put, List.setIfInBounds_toArray, List.set_cons_succ, List.set_cons_zero, List.getElem_toArray, List.getElem_cons_succ, List.getElem_cons_zero]) | (refine wpCan_yes rfl rfl (fun K hK => ?_); go_simp; refine hK _ ?_; clear hK K)
        first | (refine wpCan_no rfl rfl ?_; simp only [Act.put, List.setIfInBounds_toArray, List.set_cons_succ, List.set_cons_zero, List.getElem_toArray, List.getElem_cons_succ, List.getElem_cons_zero]) | (refine wpCan_yes rfl rfl (fun K hK => ?_); go_simp; refine hK _ ?_; clear hK K)
        first | (refine wpCan_no rfl rfl ?_; simp only [Act.put, List.setIfInBounds_toArray, List.set_cons_succ, List.set_cons_zero, List.getElem_toArray, List.getElem_cons_succ, List.getElem_cons_zero]) | (refine wpCan_yes rfl rfl (fun K hK => ?_); go_simp; refine hK _ ?_; clear hK K)
        first | (refine wpCan_no rfl rfl ?_; simp only [Act.put, List.setIfInBounds_toArray, List.set_cons_succ, List.set_cons_zero, List.getElem_toArray, List.getElem_cons_succ, List.getElem_cons_zero]) | (refine wpCan_yes rfl rfl (fun K hK => ?_); go_simp; refine hK _ ?_; clear hK K)
        first | (refine wpCan_no rfl rfl ?_; simp only [Act.put, List.setIfInBounds_toArray, List.set_cons_succ, List.set_cons_zero, List.getElem_toArray, List.getElem_cons_succ, List.getElem_cons_zero]) | (refine wpCan_yes rfl rfl (fun K hK => ?_); go_simp; refine hK _ ?_; clear hK K)
        first | (refine wpCan_no rfl rfl ?_; simp only [Act.put, List.setIfInBounds_toArray, List.set_cons_succ, List.set_cons_zero, List.getElem_toArray, List.getElem_cons_succ, List.getElem_cons_zero]) | (refine wpCan_yes rfl rfl (fun K hK => ?_); go_simp; refine hK _ ?_; clear hK K)
        first | (refine wpCan_no rfl rfl ?_; simp only [Act.put, List.setIfInBounds_toArray, List.set_cons_succ, List.set_cons_zero, List.getElem_toArray, List.getElem_cons_succ, List.getElem_cons_zero]) | (refine wpCan_yes rfl rfl (fun K hK => ?_); go_simp; refine hK _ ?_; clear hK K)
        first | (refine wpCan_no rfl rfl ?_; simp only [Act.put, List.setIfInBounds_toArray, List.set_cons_succ, List.set_cons_zero, List.getElem_toArray, List.getElem_cons_succ, List.getElem_cons_zero]) | (refine wpCan_yes rfl rfl (fun K hK => ?_); go_simp; refine hK _ ?_; clear hK K)
        iterate 1 (refine wpCan_read rfl rfl (fun K hK => ?_); go_simp; refine hK _ ?_; clear hK K)
        refine wpCan_nil ?_
        go_upto_region 8 with fail
        obtain ⟨W4, hW4⟩ : ∃ W4, W4 = W3.drew := ⟨_, rfl⟩
        have hd4 : Kept (fun _ => False) W3 W4 := by rw [hW4]; exact (Kept.refl _ _).drew
        rw [← hW4]
        have hs4 := HS3.out.kept hd4
        clear hW4 hd4 HS3 t0 t1 t2 t3 t4 tf q0 q1 q2 qf
        obtain ⟨x, hx, hs⟩ := storeOpen hs4
        obtain ⟨t0, t1, t2, t3, t4, tf⟩ := st_cells hs
        have hwl : IntKind.i64.wrap (M.last + 1) = M.last + 1 := i64w _ (by omega) (by omega)
        have hs5 : Sat B D (W4.setCell ⟨s, 4, none⟩ (.int .i64 (M.last + 1))) (stL s n { M with last := M.last + 1 } x ++ l) := Sat.modify hs 0 rfl (fun _ h => h.set 4 (.int .i64 (M.last + 1)))
        have hrn : r.length ≤ 1000 := by omega
        have HS5 := Lib.hid (storeClose (M := { M with last := M.last + 1 }) hx hs5)
        have HX := Lib.hid hx
        have HS5x := Lib.hid hs5
        clear hs hs4 hs5 hx
        go_upto_region 9 with fail
        obtain ⟨W5, hW5, hs5⟩ := Sat.hide HS5x.out
        rw [← hW5] at HS5
        rw [← hW5]
        clear hW5 HS5x t0 t1 t2 t3 t4 tf
        obtain ⟨t0, t1, t2, t3, t4, tf⟩ := st_cells hs5
        dsimp only at t4
        have HP := Lib.hid (sput_ok (M := { M with last := M.last + 1 }) (M.last + 1) HM.out (by omega) (by dsimp only; omega) HHD.out HKR.out hrn (HR.out _ _ HS5.out) HS5.out)
        clear hs5
        go_upto_region 10 with (go_at_call 32; refine HP.out.mono ?_; rintro e6 w6 ⟨rfl, o6, a6, b6, hs6⟩; have HS6 := Lib.hid hs6; clear hs6 t0 t1 t2 t3 t4 tf)
        obtain ⟨x, hx, hs⟩ := storeOpen HS6.out
        obtain ⟨t0, t1, t2, t3, t4, tf⟩ := st_cells hs
        have t4 : w6.cell? ⟨s, 4, none⟩ = some (.int .i64 (M.last + 1)) := t4
        clear hs hx
        go_wp2_with fail
        go_ret2
        rw [HE.out]
        have hfin := bareClose HS6.out
        rw [bare_put] at hfin
        exact ⟨rfl, hfin⟩
    · rw [htk, if_pos rfl] at HU
      clear htk
      go_wp2_with fail
      go_ret2
      rw [HU.out]
      exact ⟨rfl, bareMore (Nat.le_succ n) (bareClose HS3.out)⟩

set_option maxHeartbeats 4000000 in
theorem Replace_ok {B w : World} {D : PH} {s n : Nat} {A : StM} {l : List HP} (i : Int) {rv : Value} {r : List Val} (hI : StI n A) (hn : n ≤ 400) (hr : ∀ (W : World) (X : HP), Sat B D W (X :: l) → RowRd W rv r) (h : Sat B D w (storeB s n A :: l)) :
    Calls Try.prog 26 #[.pointer (some ⟨s, 0, none⟩), .int .i64 i, rv] w fun e w' => e = .returned (.int .i64 (A.rep i r).2) ∧ Sat B D w' (storeB s (n + 1) (A.rep i r).1 :: l) := by
  obtain ⟨M, rfl, hs⟩ := bareOpen h
  have HFT := Lib.hid (sfits_ok i (hr _ _ hs) hs)
  cases hf : M.fits i r
  · have HF := Lib.hid hf
    have HE := Lib.hid (show M.bare.rep i r = (M.bare, 1) by unfold StM.rep; rw [bare_fits, hf]; rfl)
    have HS := Lib.hid hs
    clear hf hs h hI hr
    go_enter Try.func26, Try.ntmps26
    go_wp2_with (go_at_call 30; refine HFT.out.mono ?_; rw [HF.out]; rintro e1 w1 ⟨rfl, hk1⟩; have HK1 := Lib.hid hk1; clear hk1)
    go_ret
    rw [HE.out]
    exact ⟨rfl, bareMore (Nat.le_succ n) (bareClose (HS.out.kept HK1.out))⟩
  · obtain ⟨j, c, m0, rfl, hj, hc, hm0, htab, hok, hsrt, hrgt, hft, hhd, hkr, hrl⟩ := fits_key hI (show M.bare.fits i r = true from hf)
    obtain ⟨m, hm, rfl⟩ := bare_tabs hm0
    have hc : M.cols[j]? = some c := hc
    have hokm : TabOk c m := tabOk_bare.1 hok
    have h0 : r[0]? = some (keyOf r) := by rw [← List.head?_eq_getElem?]; exact hhd
    obtain ⟨ao, rc, rfl⟩ : ∃ ao rc, rv = .slice ao r.length rc := by obtain ⟨_, _, ao, rc, h, _⟩ := hr _ _ hs; exact ⟨ao, rc, h⟩
    obtain ⟨rg, rog, rfl⟩ := row_src (hr _ _ hs) h0 rfl
    have hlen2 : 0 < r.length := (List.getElem?_eq_some_iff.1 h0).1
    have hlen : (0 : Int) < (r.length : Int) := by omega
    have hunf : M.bare.rep (j : Int) r = (if takenM (bareT m) (keyOf r) then (putM M.bare j (bareT m) (keyOf r) (plB false (slotM (bareT m) (keyOf r)).num r), 0) else (M.bare, 61)) := by
      unfold StM.rep
      rw [bare_fits, hf, if_pos rfl, htab]
      rfl
    rw [bare_taken, bare_num] at hunf
    generalize hkk : keyOf r = k at *
    have hbnd : 0 ≤ M.used ∧ M.used ≤ 40 := by
      have h1 := hI.used
      have h2 := hI.full
      have h3 := hI.room
      have h4 : M.bare.used = M.used := rfl
      have h5 : M.bare.room = M.room := rfl
      omega
    have hlast : 0 ≤ M.last ∧ M.last ≤ (n : Int) := hI.last
    have HF := Lib.hid hf
    have HS := Lib.hid hs
    have HR := Lib.hid hr
    have H0 := Lib.hid h0
    have HM := Lib.hid hm
    have HC := Lib.hid hc
    have HU := Lib.hid hunf
    have HHD := Lib.hid hhd
    have HKR := Lib.hid hkr
    have HAT := Lib.hid (fun (W : World) (h : Sat B D W (storeG s n M :: l)) => at_ok k hm hokm h)
    clear hf hs h hI hr hc hm0 htab hok hsrt hrgt hft hhd hkr hm hokm h0 hunf hkk
    go_enter Try.func26, Try.ntmps26
    go_upto_region 3 with (go_at_call 30; refine HFT.out.mono ?_; rw [HF.out]; rintro e1 w1 ⟨rfl, hk1⟩; have HK1 := Lib.hid hk1; clear hk1)
    have hr1 := HR.out _ _ (HS.out.kept HK1.out)
    have HS1 := Lib.hid (HS.out.kept HK1.out)
    have HA := Lib.hid (HAT.out w1 (HS.out.kept HK1.out))
    obtain ⟨y0, y1, y2⟩ := key_cells hr1 H0.out
    simp only [Nat.zero_mul, Nat.add_zero] at y0 y1 y2
    clear hr1 HS HFT
    go_upto_region 4 with (go_at_call 31; refine HA.out.mono ?_; rintro e2 w2 ⟨rfl, hk2⟩; have HK2 := Lib.hid hk2; clear hk2 y0 y1 y2)
    have hk3 : Kept (fun _ => False) w2 (w2.alloc (.cells #[.bool (slotM m k).kept, .int .i64 (slotM m k).num, .slice (slotM m k).ro (slotM m k).rn (slotM m k).rc] tW)) := (Kept.refl _ _).alloc _
    have hb3 := heap_alloc_self w2 (.cells #[.bool (slotM m k).kept, .int .i64 (slotM m k).num, .slice (slotM m k).ro (slotM m k).rn (slotM m k).rc] tW)
    have hk13 := HK2.out.trans hk3 (fun _ h => h.elim)
    obtain ⟨W3, hW3⟩ : ∃ W3, W3 = w2.alloc (.cells #[.bool (slotM m k).kept, .int .i64 (slotM m k).num, .slice (slotM m k).ro (slotM m k).rn (slotM m k).rc] tW) := ⟨_, rfl⟩
    rw [← hW3] at hb3 hk13
    rw [← hW3]
    generalize w2.heap.size = b9 at hb3 ⊢
    obtain ⟨q0, q1, q2, qf⟩ := cells3 hb3
    have HS3 := Lib.hid (HS1.out.kept hk13)
    clear hk3 hW3 hb3 hk13 HA HAT HS1 HK1 HK2
    cases htk : takenM m k
    · rw [htk, if_neg (by simp)] at HU
      clear htk
      go_wp2_with fail
      go_ret
      rw [HU.out]
      exact ⟨rfl, bareMore (Nat.le_succ n) (bareClose HS3.out)⟩
    · rw [htk, if_pos rfl] at HU
      clear htk
      have hrn : r.length ≤ 1000 := by omega
      have HP := Lib.hid (sput_ok (slotM m k).num HM.out (by omega) (by omega) HHD.out HKR.out hrn (HR.out _ _ HS3.out) HS3.out)
      go_wp2_with (go_at_call 32; refine HP.out.mono ?_; rintro e6 w6 ⟨rfl, o6, a6, b6, hs6⟩; have HS6 := Lib.hid hs6; clear hs6 q0 q1 q2 qf)
      go_ret
      rw [HU.out]
      have hfin := bareClose HS6.out
      rw [bare_put] at hfin
      exact ⟨rfl, hfin⟩

set_option maxHeartbeats 4000000 in
theorem Restore_ok {B w : World} {D : PH} {s n : Nat} {A : StM} {l : List HP} (i : Int) {rv : Value} {r : List Val} (num : Int) (hI : StI n A) (hn : n ≤ 400) (hr : ∀ (W : World) (X : HP), Sat B D W (X :: l) → RowRd W rv r) (h : Sat B D w (storeB s n A :: l)) :
    Calls Try.prog 25 #[.pointer (some ⟨s, 0, none⟩), .int .i64 i, rv, .int .i64 num] w fun e w' => e = .returned (.int .i64 (A.rst i r num).2) ∧ Sat B D w' (storeB s (n + 1) (A.rst i r num).1 :: l) := by
  obtain ⟨M, rfl, hs⟩ := bareOpen h
  have HFT := Lib.hid (sfits_ok i (hr _ _ hs) hs)
  cases hf : M.fits i r
  · have HF := Lib.hid hf
    have HE := Lib.hid (show M.bare.rst i r num = (M.bare, 1) by unfold StM.rst; rw [bare_fits, hf]; rfl)
    have HS := Lib.hid hs
    clear hf hs h hI hr
    go_enter Try.func25, Try.ntmps25
    go_wp2_with (go_at_call 30; refine HFT.out.mono ?_; rw [HF.out]; rintro e1 w1 ⟨rfl, hk1⟩; have HK1 := Lib.hid hk1; clear hk1)
    go_ret
    rw [HE.out]
    exact ⟨rfl, bareMore (Nat.le_succ n) (bareClose (HS.out.kept HK1.out))⟩
  · obtain ⟨j, c, m0, rfl, hj, hc, hm0, htab, hok, hsrt, hrgt, hft, hhd, hkr, hrl⟩ := fits_key hI (show M.bare.fits i r = true from hf)
    obtain ⟨m, hm, rfl⟩ := bare_tabs hm0
    have hc : M.cols[j]? = some c := hc
    have hokm : TabOk c m := tabOk_bare.1 hok
    have h0 : r[0]? = some (keyOf r) := by rw [← List.head?_eq_getElem?]; exact hhd
    obtain ⟨ao, rc, rfl⟩ : ∃ ao rc, rv = .slice ao r.length rc := by obtain ⟨_, _, ao, rc, h, _⟩ := hr _ _ hs; exact ⟨ao, rc, h⟩
    obtain ⟨rg, rog, rfl⟩ := row_src (hr _ _ hs) h0 rfl
    have hlen2 : 0 < r.length := (List.getElem?_eq_some_iff.1 h0).1
    have hlen : (0 : Int) < (r.length : Int) := by omega
    have hunf : M.bare.rst (j : Int) r num = (if keptM (bareT m) (keyOf r) then (putM M.bare j (bareT m) (keyOf r) (plB false num r), 0) else (M.bare, 61)) := by
      unfold StM.rst
      rw [bare_fits, hf, if_pos rfl, htab]
      rfl
    rw [bare_kept] at hunf
    generalize hkk : keyOf r = k at *
    have hbnd : 0 ≤ M.used ∧ M.used ≤ 40 := by
      have h1 := hI.used
      have h2 := hI.full
      have h3 := hI.room
      have h4 : M.bare.used = M.used := rfl
      have h5 : M.bare.room = M.room := rfl
      omega
    have hlast : 0 ≤ M.last ∧ M.last ≤ (n : Int) := hI.last
    have HF := Lib.hid hf
    have HS := Lib.hid hs
    have HR := Lib.hid hr
    have H0 := Lib.hid h0
    have HM := Lib.hid hm
    have HC := Lib.hid hc
    have HU := Lib.hid hunf
    have HHD := Lib.hid hhd
    have HKR := Lib.hid hkr
    have HAT := Lib.hid (fun (W : World) (h : Sat B D W (storeG s n M :: l)) => at_ok k hm hokm h)
    clear hf hs h hI hr hc hm0 htab hok hsrt hrgt hft hhd hkr hm hokm h0 hunf hkk
    go_enter Try.func25, Try.ntmps25
    go_upto_region 3 with (go_at_call 30; refine HFT.out.mono ?_; rw [HF.out]; rintro e1 w1 ⟨rfl, hk1⟩; have HK1 := Lib.hid hk1; clear hk1)
    have hr1 := HR.out _ _ (HS.out.kept HK1.out)
    have HS1 := Lib.hid (HS.out.kept HK1.out)
    have HA := Lib.hid (HAT.out w1 (HS.out.kept HK1.out))
    obtain ⟨y0, y1, y2⟩ := key_cells hr1 H0.out
    simp only [Nat.zero_mul, Nat.add_zero] at y0 y1 y2
    clear hr1 HS HFT
    go_upto_region 4 with (go_at_call 31; refine HA.out.mono ?_; rintro e2 w2 ⟨rfl, hk2⟩; have HK2 := Lib.hid hk2; clear hk2 y0 y1 y2)
    have hk3 : Kept (fun _ => False) w2 (w2.alloc (.cells #[.bool (slotM m k).kept, .int .i64 (slotM m k).num, .slice (slotM m k).ro (slotM m k).rn (slotM m k).rc] tW)) := (Kept.refl _ _).alloc _
    have hb3 := heap_alloc_self w2 (.cells #[.bool (slotM m k).kept, .int .i64 (slotM m k).num, .slice (slotM m k).ro (slotM m k).rn (slotM m k).rc] tW)
    have hk13 := HK2.out.trans hk3 (fun _ h => h.elim)
    obtain ⟨W3, hW3⟩ : ∃ W3, W3 = w2.alloc (.cells #[.bool (slotM m k).kept, .int .i64 (slotM m k).num, .slice (slotM m k).ro (slotM m k).rn (slotM m k).rc] tW) := ⟨_, rfl⟩
    rw [← hW3] at hb3 hk13
    rw [← hW3]
    generalize w2.heap.size = b9 at hb3 ⊢
    obtain ⟨q0, q1, q2, qf⟩ := cells3 hb3
    have HS3 := Lib.hid (HS1.out.kept hk13)
    clear hk3 hW3 hb3 hk13 HA HAT HS1 HK1 HK2
    cases htk : keptM m k
    · rw [htk, if_neg (by simp)] at HU
      clear htk
      go_wp2_with fail
      go_ret
      rw [HU.out]
      exact ⟨rfl, bareMore (Nat.le_succ n) (bareClose HS3.out)⟩
    · rw [htk, if_pos rfl] at HU
      clear htk
      have hrn : r.length ≤ 1000 := by omega
      have HP := Lib.hid (sput_ok num HM.out (by omega) (by omega) HHD.out HKR.out hrn (HR.out _ _ HS3.out) HS3.out)
      go_wp2_with (go_at_call 32; refine HP.out.mono ?_; rintro e6 w6 ⟨rfl, o6, a6, b6, hs6⟩; have HS6 := Lib.hid hs6; clear hs6 q0 q1 q2 qf)
      go_ret
      rw [HU.out]
      have hfin := bareClose HS6.out
      rw [bare_put] at hfin
      exact ⟨rfl, hfin⟩

set_option maxHeartbeats 4000000 in
theorem Remove_ok {B w : World} {D : PH} {s n : Nat} {A : StM} {l : List HP} (i : Int) (k : Val) (hI : StI n A) (hn : n ≤ 400) (h : Sat B D w (storeB s n A :: l)) :
    Calls Try.prog 20 #[.pointer (some ⟨s, 0, none⟩), .int .i64 i, k.v] w fun e w' => e = .returned (.int .i64 (A.rmv i k).2) ∧ Sat B D w' (storeB s (n + 1) (A.rmv i k).1 :: l) := by
  obtain ⟨M, rfl, hs⟩ := bareOpen h
  have hg := key_start w k
  have hk1 := hg.drop.end_ (PH.le.refl _)
  have HS := Lib.hid (hs.kept hk1)
  have HB := Lib.hid hg
  have HHAS := Lib.hid (has_ok i (hs.kept hk1))
  clear hg hk1 hs h
  dsimp only [Val.v]
  cases hf : M.has i
  · have HF := Lib.hid hf
    have HE := Lib.hid (show M.bare.rmv i k = (M.bare, 1) by unfold StM.rmv; rw [bare_hasI, hf]; rfl)
    clear hf hI
    go_enter Try.func20, Try.ntmps20
    go_wp2_with (go_at_call 35; refine HHAS.out.mono ?_; rw [HF.out]; rintro e1 w1 ⟨rfl, rfl⟩)
    go_ret
    rw [HE.out]
    exact ⟨rfl, bareMore (Nat.le_succ n) (bareClose HS.out)⟩
  · obtain ⟨j, c, m0, rfl, hj, hc, hm0, htab, hok, hsrt, hrgt⟩ := hI.at (show M.bare.has i = true from hf)
    obtain ⟨m, hm, rfl⟩ := bare_tabs hm0
    have hokm : TabOk c m := tabOk_bare.1 hok
    have hrg : RightL (tl m) := fun p hp => by
      obtain ⟨q, hq, rfl⟩ := List.mem_map.1 hp
      exact hrgt (q.1, q.2.bare.s) (List.mem_map.2 ⟨(q.1, q.2.bare), List.mem_map.2 ⟨q, hq, rfl⟩, rfl⟩)
    have hunf : M.bare.rmv (j : Int) k = (if takenM (bareT m) k then (putM M.bare j (bareT m) k (plB true 0 []), 0) else (M.bare, 61)) := by
      unfold StM.rmv
      rw [bare_hasI, hf, if_pos rfl, htab]
      rfl
    rw [bare_taken] at hunf
    have hbnd : 0 ≤ M.used ∧ M.used ≤ 40 := by
      have h1 := hI.used
      have h2 := hI.full
      have h3 := hI.room
      have h4 : M.bare.used = M.used := rfl
      have h5 : M.bare.room = M.room := rfl
      omega
    have HF := Lib.hid hf
    have HM := Lib.hid hm
    have HU := Lib.hid hunf
    have HRG := Lib.hid hrg
    have HAT := Lib.hid (fun (W : World) (h : Sat B D W (storeG s n M :: l)) => at_ok k hm hokm h)
    have hmt : j < M.tabs.length := (List.getElem?_eq_some_iff.1 hm).1
    have hib : (j : Int) < (M.tabs.length : Int) := by omega
    clear hf hI hc hm0 htab hok hsrt hrgt hm hokm hunf hrg
    go_enter Try.func20, Try.ntmps20
    go_upto_region 1 with (fail)
    obtain ⟨W, hW, hb⟩ := Sat.hide HB.out
    rw [← hW] at HS HHAS ⊢
    clear hW HB
    generalize w.heap.size = bk at hb ⊢
    obtain ⟨x0, x1, x2, xf⟩ := cells3 (hb.blk 0 rfl)
    have HB := Lib.hid (hb.blk 0 rfl)
    have HA := Lib.hid (HAT.out W HS.out)
    clear hb
    go_upto_region 4 with (first | (go_at_call 35; refine HHAS.out.mono ?_; rw [HF.out]; rintro e1 w1 ⟨rfl, rfl⟩) | (go_at_call 31; refine HA.out.mono ?_; rintro e2 w2 ⟨rfl, hk2⟩; have HK2 := Lib.hid hk2; clear hk2 x0 x1 x2 xf))
    have hk3 : Kept (fun _ => False) w2 (w2.alloc (.cells #[.bool (slotM m k).kept, .int .i64 (slotM m k).num, .slice (slotM m k).ro (slotM m k).rn (slotM m k).rc] tW)) := (Kept.refl _ _).alloc _
    have hk13 := HK2.out.trans hk3 (fun _ h => h.elim)
    obtain ⟨W3, hW3⟩ : ∃ W3, W3 = w2.alloc (.cells #[.bool (slotM m k).kept, .int .i64 (slotM m k).num, .slice (slotM m k).ro (slotM m k).rn (slotM m k).rc] tW) := ⟨_, rfl⟩
    rw [← hW3] at hk13
    rw [← hW3]
    generalize w2.heap.size = b9
    have HS3 := Lib.hid (HS.out.kept hk13)
    have HB3 := Lib.hid ((hk13.block _ (lt_of_heap HB.out) (fun h => h)).trans HB.out)
    clear hk3 hW3 hk13 HA HAT HHAS HS HK2 HB
    cases htk : takenM m k
    · rw [htk, if_neg (by simp)] at HU
      clear htk
      go_wp2_with fail
      go_ret
      rw [HU.out]
      exact ⟨rfl, bareMore (Nat.le_succ n) (bareClose HS3.out)⟩
    · rw [htk, if_pos rfl] at HU
      have hkr := mem_right HRG.out (.inl htk)
      have HHK := Lib.hid (taken_has HRG.out hkr (.inl htk))
      have HKR := Lib.hid hkr
      clear htk hkr
      go_upto_region 6 with fail
      obtain ⟨x, hx, hs⟩ := storeOpen HS3.out.drew
      obtain ⟨t, g, og, pc, ht, hpv, hpc⟩ := st_ptr hx HM.out hs
      obtain ⟨t0, t1, t2, t3, t4, tf⟩ := st_cells hs
      obtain ⟨x0, x1, x2, xf⟩ := cells3 HB3.out
      rw [hpv] at t1
      have HX := Lib.hid hx
      have HT := Lib.hid ht
      have HS4 := Lib.hid hs
      clear hx ht hpv hs
      refine wp_region_canon [(0, false, 10), (1, false, 10), (2, false, 10), (3, false, 10), (4, false, 10), (5, false, 10), (6, false, 10), (7, false, 10), (8, false, 10), (9, false, 10), (10, true, 0)] (by kernel_rfl) (by kernel_rfl) ?_
      iterate 10 (refine wpCan_read rfl rfl (fun K hK => ?_); go_simp; refine hK _ ?_; clear hK K)
      refine wpCan_eff rfl ?_
      refine wpList_do rfl (fun K hK => ?_)
      go_simp
      have hn5 := (HS4.out.own_nil tV 3).perm (List.perm_middle (l₁ := stL s n M x) (a := plP (k, ⟨true, 0, [], none, 0, 0⟩)) (l₂ := l)).symm
      refine (tree_put (p := ⟨true, 0, [], none, 0, 0⟩) HX.out HM.out HT.out (by omega) HKR.out hn5).mono ?_
      rintro e5 w5 ⟨rfl, hx5, hs5⟩
      have HS5 := Lib.hid (storeClose (M := putM M j m k ⟨true, 0, [], none, 0, 0⟩) (s := s) ⟨hx5.1, hx5.2.1, hx5.2.2⟩ (by unfold putM; rw [HHK.out]; exact hs5))
      clear hn5 hx5 hs5 t0 t1 t2 t3 t4 tf x0 x1 x2 xf hpc
      refine hK _ _ ?_
      clear hK K
      refine wpList_nil ?_
      refine And.intro ?_ ?_
      · go_simp
      refine wpCan_nil ?_
      go_wp2_with fail
      go_ret
      rw [HU.out]
      have hfin := bareClose HS5.out
      rw [bare_put] at hfin
      exact ⟨rfl, hfin⟩

set_option maxHeartbeats 4000000 in
theorem Free_ok {B w : World} {D : PH} {s n : Nat} {A : StM} {l : List HP} (i : Int) (k : Val) (hI : StI n A) (hn : n ≤ 400) (h : Sat B D w (storeB s n A :: l)) :
    Calls Try.prog 19 #[.pointer (some ⟨s, 0, none⟩), .int .i64 i, k.v] w fun e w' => e = .returned (.int .i64 (A.fre i k).2) ∧ Sat B D w' (storeB s (n + 1) (A.fre i k).1 :: l) := by
  obtain ⟨M, rfl, hs⟩ := bareOpen h
  have hg := key_start w k
  have hk1 := hg.drop.end_ (PH.le.refl _)
  have HS := Lib.hid (hs.kept hk1)
  have HB := Lib.hid hg
  have HHAS := Lib.hid (has_ok i (hs.kept hk1))
  clear hg hk1 hs h
  dsimp only [Val.v]
  cases hf : M.has i
  · have HF := Lib.hid hf
    have HE := Lib.hid (show M.bare.fre i k = (M.bare, 1) by unfold StM.fre; rw [bare_hasI, hf]; rfl)
    clear hf hI
    go_enter Try.func19, Try.ntmps19
    go_wp2_with (go_at_call 35; refine HHAS.out.mono ?_; rw [HF.out]; rintro e1 w1 ⟨rfl, rfl⟩)
    go_ret
    rw [HE.out]
    exact ⟨rfl, bareMore (Nat.le_succ n) (bareClose HS.out)⟩
  · obtain ⟨j, c, m0, rfl, hj, hc, hm0, htab, hok, hsrt, hrgt⟩ := hI.at (show M.bare.has i = true from hf)
    obtain ⟨m, hm, rfl⟩ := bare_tabs hm0
    have hokm : TabOk c m := tabOk_bare.1 hok
    have hrg : RightL (tl m) := fun p hp => by
      obtain ⟨q, hq, rfl⟩ := List.mem_map.1 hp
      exact hrgt (q.1, q.2.bare.s) (List.mem_map.2 ⟨(q.1, q.2.bare), List.mem_map.2 ⟨q, hq, rfl⟩, rfl⟩)
    have hunf : M.bare.fre (j : Int) k = (if takenM (bareT m) k then (M.bare, 60) else if keptM (bareT m) k then ({ M.bare with tabs := M.bare.tabs.set j (delM (bareT m) k), used := M.bare.used - 1 }, 0) else (M.bare, 61)) := by
      unfold StM.fre
      rw [bare_hasI, hf, if_pos rfl, htab]
      rfl
    rw [bare_taken, bare_kept] at hunf
    have hbnd : 0 ≤ M.used ∧ M.used ≤ 40 := by
      have h1 := hI.used
      have h2 := hI.full
      have h3 := hI.room
      have h4 : M.bare.used = M.used := rfl
      have h5 : M.bare.room = M.room := rfl
      omega
    have HF := Lib.hid hf
    have HM := Lib.hid hm
    have HU := Lib.hid hunf
    have HRG := Lib.hid hrg
    have HAT := Lib.hid (fun (W : World) (h : Sat B D W (storeG s n M :: l)) => at_ok k hm hokm h)
    have hmt : j < M.tabs.length := (List.getElem?_eq_some_iff.1 hm).1
    have hib : (j : Int) < (M.tabs.length : Int) := by omega
    clear hf hI hc hm0 htab hok hsrt hrgt hm hokm hunf hrg
    go_enter Try.func19, Try.ntmps19
    go_upto_region 1 with (fail)
    obtain ⟨W, hW, hb⟩ := Sat.hide HB.out
    rw [← hW] at HS HHAS ⊢
    clear hW HB
    generalize w.heap.size = bk at hb ⊢
    obtain ⟨x0, x1, x2, xf⟩ := cells3 (hb.blk 0 rfl)
    have HB := Lib.hid (hb.blk 0 rfl)
    have HA := Lib.hid (HAT.out W HS.out)
    clear hb
    go_upto_region 4 with (first | (go_at_call 35; refine HHAS.out.mono ?_; rw [HF.out]; rintro e1 w1 ⟨rfl, rfl⟩) | (go_at_call 31; refine HA.out.mono ?_; rintro e2 w2 ⟨rfl, hk2⟩; have HK2 := Lib.hid hk2; clear hk2 x0 x1 x2 xf))
    have hk3 : Kept (fun _ => False) w2 (w2.alloc (.cells #[.bool (slotM m k).kept, .int .i64 (slotM m k).num, .slice (slotM m k).ro (slotM m k).rn (slotM m k).rc] tW)) := (Kept.refl _ _).alloc _
    have hk13 := HK2.out.trans hk3 (fun _ h => h.elim)
    obtain ⟨W3, hW3⟩ : ∃ W3, W3 = w2.alloc (.cells #[.bool (slotM m k).kept, .int .i64 (slotM m k).num, .slice (slotM m k).ro (slotM m k).rn (slotM m k).rc] tW) := ⟨_, rfl⟩
    rw [← hW3] at hk13
    rw [← hW3]
    generalize w2.heap.size = b9
    have HS3 := Lib.hid (HS.out.kept hk13)
    have HB3 := Lib.hid ((hk13.block _ (lt_of_heap HB.out) (fun h => h)).trans HB.out)
    clear hk3 hW3 hk13 HA HAT HHAS HS HK2 HB
    cases htk : takenM m k
    · rw [htk, if_neg (by simp)] at HU
      cases hkp : keptM m k
      · rw [hkp, if_neg (by simp)] at HU
        clear htk hkp
        go_wp2_with fail
        go_ret
        rw [HU.out]
        exact ⟨rfl, bareMore (Nat.le_succ n) (bareClose HS3.out)⟩
      · rw [hkp, if_pos rfl] at HU
        have hkr := mem_right HRG.out (.inr hkp)
        have HHK := Lib.hid (taken_has HRG.out hkr (.inr hkp))
        have HKR := Lib.hid hkr
        clear htk hkp hkr
        go_upto_region 8 with fail
        obtain ⟨x, hx, hs⟩ := storeOpen HS3.out.drew
        obtain ⟨t, g, og, pc, ht, hpv, hpc⟩ := st_ptr hx HM.out hs
        obtain ⟨t0, t1, t2, t3, t4, tf⟩ := st_cells hs
        obtain ⟨x0, x1, x2, xf⟩ := cells3 HB3.out
        rw [hpv] at t1
        have HX := Lib.hid hx
        have HT := Lib.hid ht
        have HS4 := Lib.hid hs
        clear hx ht hpv hs
        refine wp_region_canon [(0, false, 8), (1, false, 8), (2, false, 8), (3, false, 8), (4, false, 8), (5, false, 8), (6, false, 8), (7, false, 8), (8, true, 0)] (by kernel_rfl) (by kernel_rfl) ?_
        iterate 8 (refine wpCan_read rfl rfl (fun K hK => ?_); go_simp; refine hK _ ?_; clear hK K)
        refine wpCan_eff rfl ?_
        refine wpList_do rfl (fun K hK => ?_)
        go_simp
        refine (tree_del HX.out HM.out HT.out (by omega) HKR.out HS4.out).mono ?_
        rintro e5 w5 ⟨rfl, hx5, hs5⟩
        clear t0 t1 t2 t3 t4 tf x0 x1 x2 xf hpc
        obtain ⟨t0, t1, t2, t3, t4, tf⟩ := st_cells hs5
        dsimp only at t3
        have hs6 : Sat B D (w5.setCell ⟨s, 3, none⟩ (.int .i64 (M.used - 1))) (stL s (n + 1) { M with tabs := M.tabs.set j (delM m k), used := M.used - 1 } x ++ l) := Sat.modify hs5 0 rfl (fun _ h => h.set 3 (.int .i64 (M.used - 1)))
        have HS6 := Lib.hid (storeClose (M := { M with tabs := M.tabs.set j (delM m k), used := M.used - 1 }) (s := s) ⟨hx5.1, hx5.2.1, hx5.2.2⟩ hs6)
        have hwu : IntKind.i64.wrap (M.used - 1) = M.used - 1 := i64w _ (by omega) (by omega)
        clear hs6 hs5 hx5
        refine hK _ _ ?_
        clear hK K
        refine wpList_nil ?_
        refine And.intro ?_ ?_
        · go_simp
        refine wpCan_nil ?_
        go_wp2_with fail
        go_ret
        rw [HU.out]
        have hfin := bareClose HS6.out
        unfold StM.bare at hfin ⊢
        dsimp only at hfin ⊢
        rw [List.map_set, bare_del] at hfin
        exact ⟨rfl, hfin⟩
    · rw [htk, if_pos rfl] at HU
      clear htk
      go_wp2_with fail
      go_ret
      rw [HU.out]
      exact ⟨rfl, bareMore (Nat.le_succ n) (bareClose HS3.out)⟩

theorem Used_ok {B w : World} {D : PH} {s n : Nat} {A : StM} {l : List HP} (h : Sat B D w (storeB s n A :: l)) : Calls Try.prog 13 #[.pointer (some ⟨s, 0, none⟩)] w fun e w' => e = .returned (.int .i64 A.used) ∧ w = w' := by
  obtain ⟨M, rfl, hs⟩ := bareOpen h
  obtain ⟨x, hx, hs⟩ := storeOpen hs
  obtain ⟨t0, t1, t2, t3, t4, tf⟩ := st_cells hs
  clear hs hx h
  go_enter Try.func13, Try.ntmps13
  go_wp2_with fail
  go_ret
  exact ⟨rfl, rfl⟩
theorem Get_okB {B w : World} {D : PH} {s n : Nat} {A : StM} {l : List HP} (i : Int) (k : Val) (hI : StI n A) (h : Sat B D w (storeB s n A :: l)) :
    Calls Try.prog 14 #[.pointer (some ⟨s, 0, none⟩), .int .i64 i, k.v] w fun e w' => ∃ v, e = .returned (.tuple #[v, .int .i64 (gnum A i k), .bool (gotM A i k)]) ∧ Sat B D w' (ownS tV 3 v (grow A i k).length ((grow A i k).flatMap Val.cells) :: storeB s n A :: l) := by
  obtain ⟨M, rfl, hs⟩ := bareOpen h
  refine (sget_ok i k hI.of_bare hs).mono ?_
  rintro e w' ⟨v, rfl, hs'⟩
  rw [bare_gnum, bare_got, bare_grow]
  exact ⟨v, rfl, (bareClose hs'.swap).swap⟩
end Go.Proofs.Ytcbklkcpjldcjaa
