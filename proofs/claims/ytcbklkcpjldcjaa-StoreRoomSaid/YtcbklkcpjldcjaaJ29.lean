/- Joined texts: The store: Get, put. The store as data, its headers apart: what is done to it. -/
import Derived.Test.YtcbklkcpjldcjaaJ28
/- The store: Get, put. -/
namespace Go.Proofs.Ytcbklkcpjldcjaa
open Go.ChangeShapes Go.WideShapes Go.ChangeAt Go.RowKit
set_option maxRecDepth 100000
set_option linter.unusedSimpArgs false

theorem Sat.fresh {w w' : World} {e : TypeId} {size n : Nat} {v : Value} {xs : List Value} {l : List HP} (hs : Sat w (heapOf w) w' (ownS e size v n xs :: l)) : ∀ g, v.ownBlock = some g → w.heap.size ≤ g := by
  intro g hg
  refine Classical.byContradiction fun hlt => ?_
  obtain ⟨h1, h2, a, b, c, d, e0⟩ := hs.holds
  obtain ⟨m1, m2, a2, b2, c2, d2, _⟩ := e0
  have hgs : heapOf w g = some w.heap[g] := Array.getElem?_eq_getElem (by omega)
  have h3 := d _ _ hgs
  rcases d2.2.2 with ⟨q, _⟩ | ⟨g', cap, cur, q1, q2, _⟩
  · rw [q] at hg; cases hg
  · rw [q1] at hg
    have : g' = g := by simpa [Value.ownBlock] using hg
    subst this
    have h4 := b2 _ _ q2
    rcases a g' with h | h
    · rw [h] at h3; cases h3
    · rw [h] at h4; cases h4
/-- a row is cloned: what is told is new -/
theorem rclone_new {w : World} {v : Value} {r : List Val} (hrd : RowRd w v r) (hb : r.length ≤ 1000) :
    Calls Try.prog 36 #[v] w fun e w' => ∃ v', e = .returned v' ∧ Kept (fun _ => False) w w' ∧ Own w' tV 3 v' r.length (r.flatMap Val.cells) ∧ ∀ g, v'.ownBlock = some g → w.heap.size ≤ g :=
  (rclone_ok hrd hb (Sat.start w)).mono (fun _ _ ⟨v', h1, h2⟩ => ⟨v', h1, h2.drop.end_ (PH.le.refl _), h2.own 0 rfl, h2.fresh⟩)

/-- what a store may be -/
structure StGood (M : StM) : Prop where
  some_ : 1 ≤ M.cols.length ∧ M.cols.length ≤ 3
  may : ∀ c ∈ M.cols, mayT c = true
  tabs : ∀ (i : Nat) (c : List Bool) (m : TabM), M.cols[i]? = some c → M.tabs[i]? = some m → TabOk c m
def StM.tab (M : StM) (i : Int) : TabM := if M.has i then M.tabs.getD i.toNat [] else []
/-- the row, the number at a key -/
def rowM (m : TabM) (k : Val) : List Val := match atM m k with
  | some p => p.row
  | none => []
theorem atM_mem {m : TabM} {k : Val} {p : PlM} (h : atM m k = some p) : (k, p) ∈ m := by
  unfold atM findM at h
  cases h2 : m.find? (fun p => decide (p.1 = k)) with
  | none => rw [h2] at h; cases h
  | some q =>
    rw [h2] at h
    cases h
    have h3 := List.find?_some h2
    have h4 := List.mem_of_find?_eq_some h2
    simp at h3
    rw [← h3]
    exact h4
section
variable {B w w' : World} {D : PH} {s n n' : Nat} {M : StM} {x : StH} {l : List HP} {i t : Nat} {m m' : TabM}
theorem st_tab (hx : StOk M x) {c : List Bool} (hc : M.cols[i]? = some c) : ∃ m, M.tabs[i]? = some m := by
  have hlt := (List.getElem?_eq_some_iff.1 hc).1
  exact ⟨M.tabs[i]'(by rw [hx.2.2]; exact hlt), List.getElem?_eq_getElem _⟩
/-- a place's row is read -/
theorem st_row (hx : StOk M x) (hm : M.tabs[i]? = some m) (h : Sat B D w (stL s n M x ++ l)) {k : Val} {p : PlM} (hp : (k, p) ∈ m) : RowRd w p.hv p.row := by
  obtain ⟨t, _, _, _, ht, _⟩ := st_ptr hx hm h
  obtain ⟨T, _, hsT⟩ := Sat.open_ex (st_focus hm ht h)
  obtain ⟨j, hj⟩ := List.mem_iff_getElem?.1 hp
  have hj2 : (m.map plP)[j]? = some (plP (k, p)) := by rw [List.getElem?_map, hj]; rfl
  have h1 : Sat B D w (group (m.map plP) :: _) := Sat.swap hsT
  have h2 := h1.drop
  have h3 := (Sat.drop (A := treeG t T) hsT).ungroup
  exact (Sat.own (h3.perm ((perm_get _ j _ hj2).append_right _)) 0 rfl).rd
end
theorem key_start (w : World) (k : Val) : Sat w (heapOf w) (w.alloc (.cells #[.bool k.t, .int .i64 k.n, .string k.s] tV)) [blk w.heap.size #[.bool k.t, .int .i64 k.n, .string k.s] tV] := (Sat.start w).alloc #[.bool k.t, .int .i64 k.n, .string k.s] tV
def gotM (M : StM) (i : Int) (k : Val) : Bool := M.has i && takenM (M.tab i) k
def grow (M : StM) (i : Int) (k : Val) : List Val := if gotM M i k then rowM (M.tab i) k else []
def gnum (M : StM) (i : Int) (k : Val) : Int := if gotM M i k then (slotM (M.tab i) k).num else 0
theorem tab_at {M : StM} {j : Nat} {m : TabM} (hj : j < M.cols.length) (hm : M.tabs[j]? = some m) : M.has (j : Int) = true ∧ M.tab (j : Int) = m := by
  have h1 : M.has (j : Int) = true := by unfold StM.has; simp; omega
  refine ⟨h1, ?_⟩
  unfold StM.tab
  rw [if_pos h1]
  simp [hm]
theorem fits_len {c : List Bool} {r : List Val} (h : fitsT c r = true) : 1 ≤ r.length ∧ r.length ≤ 4 ∧ mayT c = true ∧ r.length = c.length := by
  unfold fitsT at h
  simp only [Bool.and_eq_true, decide_eq_true_eq] at h
  obtain ⟨⟨h1, h2⟩, _⟩ := h
  have h3 := h1
  unfold mayT at h3
  simp only [Bool.and_eq_true, decide_eq_true_eq] at h3
  exact ⟨by omega, by omega, h1, h2⟩

set_option maxHeartbeats 4000000 in
theorem sget_ok {B w : World} {D : PH} {s n : Nat} {M : StM} {l : List HP} (i : Int) (k : Val) (hM : StGood M) (h : Sat B D w (storeG s n M :: l)) :
    Calls Try.prog 14 #[.pointer (some ⟨s, 0, none⟩), .int .i64 i, k.v] w fun e w' => ∃ v, e = .returned (.tuple #[v, .int .i64 (gnum M i k), .bool (gotM M i k)]) ∧ Sat B D w' (ownS tV 3 v (grow M i k).length ((grow M i k).flatMap Val.cells) :: storeG s n M :: l) := by
  have hg := key_start w k
  have hk1 := hg.drop.end_ (PH.le.refl _)
  have HS := Lib.hid (h.kept hk1)
  have HB := Lib.hid hg
  have HM := Lib.hid hM
  have HHAS := Lib.hid (has_ok i (h.kept hk1))
  clear hg hk1 h hM
  dsimp only [Val.v]
  rcases has_cases M i with ⟨hh, j, rfl, hj⟩ | ⟨hh, -⟩
  · obtain ⟨c, hc⟩ : ∃ c, M.cols[j]? = some c := ⟨M.cols[j], List.getElem?_eq_getElem hj⟩
    obtain ⟨x, hx, -⟩ := storeOpen HS.out
    obtain ⟨m, hm⟩ := st_tab hx hc
    obtain ⟨-, htab⟩ := tab_at hj hm
    have hok := HM.out.tabs j c m hc hm
    have HH := Lib.hid hh
    have HTM := Lib.hid hm
    have HOK := Lib.hid hok
    have HAT := Lib.hid (fun (W : World) (h : Sat B D W (storeG s n M :: l)) => at_ok k hm hok h)
    have HGOT := Lib.hid (show gotM M (j : Int) k = takenM m k by unfold gotM; rw [hh, htab]; rfl)
    have HGR := Lib.hid (show grow M (j : Int) k = (if gotM M (j : Int) k then rowM m k else []) ∧ gnum M (j : Int) k = (if gotM M (j : Int) k then (slotM m k).num else 0) by unfold grow gnum; rw [htab]; exact ⟨rfl, rfl⟩)
    clear hh hc hx hm hok htab
    go_enter Try.func14, Try.ntmps14
    go_upto_region 1 with (fail)
    obtain ⟨W, hW, hb⟩ := Sat.hide HB.out
    rw [← hW] at HS HHAS ⊢
    clear hW HB
    generalize w.heap.size = bk at hb ⊢
    obtain ⟨x0, x1, x2, xf⟩ := cells3 (hb.blk 0 rfl)
    have HB := Lib.hid hb
    have HA := Lib.hid (HAT.out W HS.out)
    clear hb
    go_upto_region 4 with (first | (go_at_call 35; refine HHAS.out.mono ?_; rw [HH.out]; rintro e1 w1 ⟨rfl, rfl⟩) | (go_at_call 31; refine HA.out.mono ?_; rintro e2 w2 ⟨rfl, hk2⟩; have HK2 := Lib.hid hk2; clear hk2 x0 x1 x2 xf))
    have hk3 : Kept (fun _ => False) w2 (w2.alloc (.cells #[.bool (slotM m k).kept, .int .i64 (slotM m k).num, .slice (slotM m k).ro (slotM m k).rn (slotM m k).rc] tW)) := (Kept.refl _ _).alloc _
    have hb3 := heap_alloc_self w2 (.cells #[.bool (slotM m k).kept, .int .i64 (slotM m k).num, .slice (slotM m k).ro (slotM m k).rn (slotM m k).rc] tW)
    have hs3 := HS.out.kept (HK2.out.trans hk3 (fun _ h => h.elim))
    obtain ⟨W3, hW3⟩ : ∃ W3, W3 = w2.alloc (.cells #[.bool (slotM m k).kept, .int .i64 (slotM m k).num, .slice (slotM m k).ro (slotM m k).rn (slotM m k).rc] tW) := ⟨_, rfl⟩
    rw [← hW3] at hb3 hs3
    rw [← hW3]
    generalize w2.heap.size = b9 at hb3 ⊢
    obtain ⟨y0, y1, y2, yf⟩ := cells3 hb3
    have HB3 := Lib.hid hb3
    have HS3 := Lib.hid hs3
    clear hk3 hW3 hb3 hs3 HA HAT HHAS HB HS
    cases htk : takenM m k
    · have HG1 := Lib.hid (show gnum M (j : Int) k = 0 ∧ gotM M (j : Int) k = false ∧ grow M (j : Int) k = [] by rw [HGR.out.1, HGR.out.2, HGOT.out, htk]; exact ⟨rfl, rfl, rfl⟩)
      clear htk
      go_wp2_with fail
      go_ret3
      rw [HG1.out.1, HG1.out.2.1, HG1.out.2.2]
      exact ⟨_, rfl, HS3.out.own_nil tV 3⟩
    · obtain ⟨p, hp⟩ : ∃ p, atM m k = some p := by
        unfold takenM at htk
        cases h : atM m k with
        | none => rw [h] at htk; cases htk
        | some p => exact ⟨p, rfl⟩
      have hnk : p.kept = false := by
        unfold takenM at htk
        rw [hp] at htk
        simpa using htk
      have hmem := atM_mem hp
      have hfit := (HOK.out _ hmem).2 hnk
      have hsl : slotM m k = p.s := by unfold slotM; rw [hp]
      have hrm : rowM m k = p.row := by unfold rowM; rw [hp]
      have HG1 := Lib.hid (show gnum M (j : Int) k = p.num ∧ gotM M (j : Int) k = true ∧ grow M (j : Int) k = p.row by rw [HGR.out.1, HGR.out.2, HGOT.out, htk, hsl, hrm]; exact ⟨rfl, rfl, rfl⟩)
      obtain ⟨x3, hx3, hs3⟩ := storeOpen HS3.out
      have HRD := Lib.hid (st_row hx3 HTM.out hs3.drew hmem)
      have hrl : p.row.length ≤ 1000 := by have := fits_len hfit.1; dsimp only at this; omega
      rw [hsl] at y0 y1 y2 HB3 ⊢
      dsimp only [PlM.s] at y0 y1 y2 HB3 ⊢
      clear hs3 hx3 x3 hmem hfit hsl hrm hp hnk htk HOK
      go_upto_region 6 with fail
      refine wp_region_canon [(0, false, 2), (1, false, 2), (3, false, 999), (4, false, 999), (5, false, 999), (2, true, 0), (6, false, 999), (7, false, 999), (8, false, 999)] (by kernel_rfl) (by kernel_rfl) ?_
      iterate 5 (refine wpCan_read rfl rfl (fun K hK => ?_); go_simp; refine hK _ ?_; clear hK K)
      refine wpCan_eff rfl ?_
      refine wpList_do rfl (fun K hK => ?_)
      go_simp
      refine (rclone_new HRD.out hrl).mono ?_
      rintro e4 w4 ⟨v4, rfl, hk4, ho4, hf4⟩
      have HS4 := Lib.hid (HS3.out.drew.own_new hk4 ho4 hf4)
      have hb4 := (hk4.block b9 (lt_of_heap HB3.out) (fun h => h)).trans HB3.out
      clear hk4 ho4 hf4 y0 y1 y2 yf
      obtain ⟨y0, y1, y2, yf⟩ := cells3 hb4
      clear hb4
      refine hK _ _ ?_
      clear hK K
      refine wpList_nil ?_
      refine And.intro ?_ ?_
      · go_simp
      iterate 3 (refine wpCan_read rfl rfl (fun K hK => ?_); go_simp; refine hK _ ?_; clear hK K)
      refine wpCan_nil ?_
      go_wp2_with fail
      go_ret3
      rw [HG1.out.1, HG1.out.2.1, HG1.out.2.2]
      exact ⟨_, rfl, HS4.out⟩
  · have HH := Lib.hid hh
    have HG1 := Lib.hid (show gnum M i k = 0 ∧ gotM M i k = false ∧ grow M i k = [] by
      have e : gotM M i k = false := by unfold gotM; rw [hh]; rfl
      unfold gnum grow
      rw [e]
      exact ⟨rfl, rfl, rfl⟩)
    clear hh
    go_enter Try.func14, Try.ntmps14
    go_wp2_with (go_at_call 35; refine HHAS.out.mono ?_; rw [HH.out]; rintro e1 w1 ⟨rfl, rfl⟩)
    go_ret3
    rw [HG1.out.1, HG1.out.2.1, HG1.out.2.2]
    exact ⟨_, rfl, HS.out.own_nil tV 3⟩

/-- a table with another place; a store with one -/
def putM (M : StM) (i : Nat) (m : TabM) (k : Val) (p : PlM) : StM := { M with tabs := M.tabs.set i (insM m k p), used := if hasK (tl m) k then M.used else M.used + 1 }
theorem plP_mono {m : TabM} {q : Val × PlM → Bool} {B w : World} {D : PH} {l : List HP} : Sat B D w (group (m.map plP) :: l) → Sat B D w (group ((m.filter q).map plP) :: l) := by
  intro h
  have h1 := h.ungroup
  refine Sat.togroup ?_
  clear h
  induction m generalizing l with
  | nil => exact h1
  | cons x m ih =>
    cases hq : q x
    · rw [List.filter_cons_of_neg (by simp [hq])]
      exact ih h1.drop
    · rw [List.filter_cons_of_pos hq]
      have h2 : Sat B D w (m.map plP ++ (plP x :: l)) := h1.perm (List.perm_middle (l₁ := m.map plP) (a := plP x) (l₂ := l)).symm
      exact (ih h2).perm (List.perm_middle (l₁ := (m.filter q).map plP) (a := plP x) (l₂ := l))
theorem ins_perm (m : TabM) (k : Val) (p : PlM) : ((insM m k p).map plP).Perm (plP (k, p) :: ((m.filter (fun q => !decide (valCmp q.1 k = 0))).map plP)) := by
  unfold insM
  rw [List.map_append, List.map_cons]
  refine List.perm_middle.trans ((List.Perm.cons _ ?_))
  rw [← List.map_append]
  refine List.Perm.map _ ?_
  induction m with
  | nil => exact List.Perm.refl _
  | cons x m ih =>
    by_cases h1 : valCmp x.1 k < 0
    · rw [List.filter_cons_of_pos (by simpa using h1), List.filter_cons_of_neg (by simp; omega), List.filter_cons_of_pos (by simp; omega)]
      exact ih.cons _
    · by_cases h2 : 0 < valCmp x.1 k
      · rw [List.filter_cons_of_neg (by simpa using h1), List.filter_cons_of_pos (by simpa using h2), List.filter_cons_of_pos (by simp; omega)]
        exact List.perm_middle.trans (ih.cons _)
      · rw [List.filter_cons_of_neg (by simpa using h1), List.filter_cons_of_neg (by simpa using h2), List.filter_cons_of_neg (by simp; omega)]
        exact ih
/-- a row more, into a table's group -/
theorem grp_ins {m : TabM} {k : Val} {p : PlM} {B w : World} {D : PH} {l : List HP} (h : Sat B D w (group (m.map plP) :: plP (k, p) :: l)) : Sat B D w (group ((insM m k p).map plP) :: l) := by
  have h1 := (plP_mono (q := fun q => !decide (valCmp q.1 k = 0)) h).swap
  have h2 := h1.perm (List.Perm.cons _ (List.Perm.refl _))
  have h3 : Sat B D w (plP (k, p) :: ((m.filter (fun q => !decide (valCmp q.1 k = 0))).map plP ++ l)) := (h1.swap.ungroup).perm (List.perm_middle (l₁ := (m.filter (fun q => !decide (valCmp q.1 k = 0))).map plP) (a := plP (k, p)) (l₂ := l))
  exact Sat.togroup (h3.perm ((ins_perm m k p).symm.append_right l))

set_option maxHeartbeats 4000000 in
theorem sput_ok {B w : World} {D : PH} {s n i : Nat} {M : StM} {l : List HP} {m : TabM} {r : List Val} {k : Val} {rv : Value} (num : Int) (hm : M.tabs[i]? = some m) (hn : n ≤ 500) (hu : 0 ≤ M.used ∧ M.used ≤ 100000) (hk : r.head? = some k) (hkr : valRight k = true) (hrl : r.length ≤ 1000) (hr : RowRd w rv r) (h : Sat B D w (storeG s n M :: l)) :
    Calls Try.prog 32 #[.pointer (some ⟨s, 0, none⟩), .int .i64 i, rv, .int .i64 num] w fun e w' => e = .returned (.tuple #[]) ∧ ∃ o a b, Sat B D w' (storeG s (n + 1) (putM M i m k ⟨false, num, r, o, a, b⟩) :: l) := by
  obtain ⟨x, hx, hs⟩ := storeOpen h
  obtain ⟨t, g, og, pc, ht, hpv, hpc⟩ := st_ptr hx hm hs
  obtain ⟨t0, t1, t2, t3, t4, tf⟩ := st_cells hs
  rw [hpv] at t1
  have hmt : i < M.tabs.length := (List.getElem?_eq_some_iff.1 hm).1
  have hib : (i : Int) < (M.tabs.length : Int) := by omega
  have h0 : r[0]? = some k := by rw [← List.head?_eq_getElem?]; exact hk
  obtain ⟨ao, rc, rfl⟩ : ∃ ao rc, rv = .slice ao r.length rc := by obtain ⟨_, _, ao, rc, h, _⟩ := id hr; exact ⟨ao, rc, h⟩
  obtain ⟨rg, rog, rfl⟩ := row_src hr h0 rfl
  obtain ⟨y0, y1, y2⟩ := key_cells hr h0
  simp only [Nat.zero_mul, Nat.add_zero] at y0 y1 y2
  have hlen : (0 : Int) < (r.length : Int) := by have := (List.getElem?_eq_some_iff.1 h0).1; omega
  have hlen2 : 0 < r.length := by omega
  have HR := Lib.hid hr
  have H0 := Lib.hid h0
  have HS := Lib.hid hs
  have HX := Lib.hid hx
  have HM := Lib.hid hm
  have HPV := Lib.hid hpv
  have HTS := Lib.hid ht
  have HKR := Lib.hid hkr
  have hwu : IntKind.i64.wrap (M.used + 1) = M.used + 1 := i64w _ (by omega) (by omega)
  clear hr hs h hx hm ht hpv hk hkr h0
  go_enter Try.func32, Try.ntmps32
  go_upto_region 0 with fail
  refine wp_region_canon [(0, false, 15), (1, false, 15), (2, false, 15), (3, false, 15), (4, false, 15), (5, false, 15), (6, false, 15), (7, false, 15), (8, false, 15), (9, false, 15), (10, false, 15), (11, false, 15), (12, false, 13), (13, true, 0), (14, false, 15), (15, true, 0)] (by kernel_rfl) (by kernel_rfl) ?_
  iterate 13 (refine wpCan_read rfl rfl (fun K hK => ?_); go_simp; refine hK _ ?_; clear hK K)
  refine wpCan_eff rfl ?_
  refine wpList_do rfl (fun K hK => ?_)
  go_simp
  refine (rclone_new (HR.out.kept ((Kept.refl (fun _ => False) w).drew) (fun _ _ h => h)) hrl).mono ?_
  rintro e4 w4 ⟨v4, rfl, hk4, ho4, hf4⟩
  have hs4 := HS.out.drew.kept hk4
  have hn4 := HS.out.drew.own_new hk4 ho4 hf4
  obtain ⟨o4, c4, rfl⟩ := hn4.own_shape
  have hr4 := Rd.kept (Rd.kept HR.out ((Kept.refl (fun _ => False) w).drew) (fun _ _ h => h)) hk4 (fun _ _ h => h)
  clear hk4 ho4 hf4 y0 y1 y2 t0 t1 t2 t3 t4 tf hpc
  obtain ⟨y0, y1, y2⟩ := key_cells hr4 H0.out
  simp only [Nat.zero_mul, Nat.add_zero] at y0 y1 y2
  obtain ⟨t0, t1, t2, t3, t4, tf⟩ := st_cells hs4
  obtain ⟨t', g', og', pc', ht', hpv', hpc⟩ := st_ptr HX.out HM.out hs4
  rw [HPV.out] at hpv' t1
  rw [HTS.out] at ht'
  cases hpv'
  cases ht'
  have HN4 := Lib.hid (hn4.perm (List.perm_middle (l₁ := stL s n M x) (a := ownS tV 3 (.slice o4 r.length c4) r.length (r.flatMap Val.cells)) (l₂ := l)).symm)
  clear hs4 hn4 hr4
  refine hK _ _ ?_
  clear hK K
  refine wpList_nil ?_
  refine And.intro ?_ ?_
  · go_simp
  iterate 1 (refine wpCan_read rfl rfl (fun K hK => ?_); go_simp; refine hK _ ?_; clear hK K)
  refine wpCan_eff rfl ?_
  refine wpList_do rfl (fun K hK => ?_)
  go_simp
  obtain ⟨T, ⟨hG, hSm⟩, hsT⟩ := Sat.open_ex (st_focus HM.out HTS.out HN4.out)
  refine (Put_ok k (⟨false, num, o4, r.length, c4⟩ : SlotT) hG hSm hn (treeOpen hsT)).mono ?_
  rintro e5 w5 ⟨T5, rfl, ha5, hn5⟩
  have hput : putL (tl m) k (⟨false, num, o4, r.length, c4⟩ : SlotT) = tl (insM m k ⟨false, num, r, o4, r.length, c4⟩) := by
    unfold putL
    rw [HKR.out, if_pos rfl]
    exact tl_ins m k ⟨false, num, r, o4, r.length, c4⟩
  have hpb : putB (tl m) k = !hasK (tl m) k := by unfold putB; rw [HKR.out]; rfl
  have hsm5 := hn5.small hSm
  have hgd5 := hn5.good
  rw [hput] at hsm5 hgd5
  have hc5 := ha5.close
  have hg5 : Sat B D w5 (group (m.map plP) :: plP (k, ⟨false, num, r, o4, r.length, c4⟩) :: treeG t T5 :: (stRest s n M x i ++ l)) :=
    (hc5.swap.perm (List.perm_middle (l₁ := group (m.map plP) :: treeG t T5 :: stRest s n M x i) (a := plP (k, ⟨false, num, r, o4, r.length, c4⟩)) (l₂ := l))).swap
  have hg6 := (grp_ins hg5).swap
  have ht6 : Sat B D w5 (tabG (n + 1) t (insM m k ⟨false, num, r, o4, r.length, c4⟩) :: (stRest s n M x i ++ l)) := Sat.close_ex T5 ⟨hgd5, hsm5⟩ hg6
  have hu6 := st_unfocus HX.out HM.out HTS.out (Nat.le_succ n) ht6
  rw [hpb]
  have HU := Lib.hid hu6
  clear hG hSm hsT ha5 hn5 hput hpb hsm5 hgd5 hc5 hg5 hg6 ht6 hu6 HN4 y0 y1 y2 t0 t1 t2 t3 t4 tf hpc
  refine hK _ _ ?_
  clear hK K
  refine wpList_nil ?_
  refine And.intro ?_ ?_
  · go_simp
  refine wpCan_nil ?_
  cases hhk : hasK (tl m) k
  · have HHK := Lib.hid hhk
    clear hhk
    obtain ⟨t0, t1, t2, t3, t4, tf⟩ := st_cells HU.out.2
    dsimp only at t3
    have hset : Sat B D (w5.setCell ⟨s, 3, none⟩ (.int .i64 (M.used + 1))) (stL s (n + 1) (putM M i m k ⟨false, num, r, o4, r.length, c4⟩) x ++ l) := by
      have h1 := (Sat.modify HU.out.2 0 rfl (fun _ h => h.set 3 (.int .i64 (M.used + 1))))
      unfold putM
      rw [HHK.out]
      exact h1
    have HF := Lib.hid (storeClose (M := putM M i m k ⟨false, num, r, o4, r.length, c4⟩) ⟨HU.out.1.1, HU.out.1.2.1, HU.out.1.2.2⟩ hset)
    clear hset
    go_wp2_with fail
    go_end0
    exact ⟨rfl, _, _, _, HF.out⟩
  · have HF := Lib.hid (storeClose (M := putM M i m k ⟨false, num, r, o4, r.length, c4⟩) ⟨HU.out.1.1, HU.out.1.2.1, HU.out.1.2.2⟩ (by
      have h1 := HU.out.2
      unfold putM
      rw [hhk]
      exact h1))
    clear hhk
    go_wp2_with fail
    go_end0
    exact ⟨rfl, _, _, _, HF.out⟩
end Go.Proofs.Ytcbklkcpjldcjaa

/- The store as data, its headers apart: what is done to it. -/
namespace Go.Proofs.Ytcbklkcpjldcjaa
open Go.ChangeShapes Go.WideShapes Go.ChangeAt Go.RowKit
set_option maxRecDepth 100000
set_option linter.unusedSimpArgs false

/-- without the rows' headers -/
def plB (kept : Bool) (num : Int) (row : List Val) : PlM := ⟨kept, num, row, none, 0, 0⟩
def PlM.bare (p : PlM) : PlM := plB p.kept p.num p.row
def bareT (m : TabM) : TabM := m.map fun p => (p.1, p.2.bare)
def StM.bare (M : StM) : StM := { M with tabs := M.tabs.map bareT }
def storeB (s n : Nat) (A : StM) : HP := exP (fun M : StM => M.bare = A) (fun M => [storeG s n M])

section
variable {m : TabM} {k : Val} {M : StM} {i : Int}
theorem bare_ins (p : PlM) : bareT (insM m k p) = insM (bareT m) k p.bare := by
  unfold insM bareT
  rw [List.map_append, List.map_cons, List.filter_map, List.filter_map]
  rfl
theorem bare_del : bareT (delM m k) = delM (bareT m) k := by
  unfold delM bareT
  rw [List.filter_map]
  rfl
theorem bare_at : atM (bareT m) k = (atM m k).map PlM.bare := by
  unfold atM findM bareT
  rw [List.find?_map]
  show Option.map Prod.snd (Option.map _ (m.find? (fun p => decide (p.1 = k)))) = _
  cases m.find? (fun p => decide (p.1 = k)) <;> rfl
theorem bare_taken : takenM (bareT m) k = takenM m k := by
  unfold takenM
  rw [bare_at]
  cases atM m k <;> rfl
theorem bare_kept : keptM (bareT m) k = keptM m k := by
  unfold keptM
  rw [bare_at]
  cases atM m k <;> rfl
theorem bare_row : rowM (bareT m) k = rowM m k := by
  unfold rowM
  rw [bare_at]
  cases atM m k <;> rfl
theorem bare_num : (slotM (bareT m) k).num = (slotM m k).num := by
  unfold slotM
  rw [bare_at]
  cases atM m k <;> rfl
theorem bare_has : hasK (tl (bareT m)) k = hasK (tl m) k := by
  rw [tl_has, tl_has]
  unfold bareT
  rw [List.any_map]
  rfl
theorem bare_hasI : M.bare.has i = M.has i := rfl
theorem bare_fits {r : List Val} : M.bare.fits i r = M.fits i r := rfl
theorem bare_get {j : Nat} (h : M.tabs[j]? = some m) : M.bare.tabs[j]? = some (bareT m) := by
  unfold StM.bare
  dsimp only
  rw [List.getElem?_map, h]
  rfl
theorem bare_tab : M.bare.tab i = bareT (M.tab i) := by
  unfold StM.tab
  rw [bare_hasI]
  cases M.has i
  · rfl
  · show M.bare.tabs.getD i.toNat [] = bareT (M.tabs.getD i.toNat [])
    unfold StM.bare
    dsimp only
    rw [List.getD_eq_getElem?_getD, List.getD_eq_getElem?_getD, List.getElem?_map]
    cases M.tabs[i.toNat]? <;> rfl
theorem bare_got : gotM M.bare i k = gotM M i k := by unfold gotM; rw [bare_tab, bare_taken]; rfl
theorem bare_grow : grow M.bare i k = grow M i k := by unfold grow; rw [bare_got, bare_tab, bare_row]
theorem bare_gnum : gnum M.bare i k = gnum M i k := by unfold gnum; rw [bare_got, bare_tab, bare_num]
theorem bare_put {j : Nat} (p : PlM) : (putM M j m k p).bare = putM M.bare j (bareT m) k p.bare := by
  unfold putM StM.bare
  dsimp only
  rw [List.map_set, bare_ins, bare_has]
theorem tabOk_bare {c : List Bool} : TabOk c (bareT m) ↔ TabOk c m := by
  unfold TabOk bareT
  constructor
  · intro h p hp
    exact h (p.1, p.2.bare) (List.mem_map.2 ⟨p, hp, rfl⟩)
  · intro h q hq
    obtain ⟨p, hp, rfl⟩ := List.mem_map.1 hq
    exact h p hp
theorem good_bare (h : StGood M.bare) : StGood M :=
  ⟨h.some_, h.may, fun j c m h1 h2 => tabOk_bare.1 (h.tabs j c (bareT m) h1 (bare_get h2))⟩
end

/-! ### what is done -/
def keyOf (r : List Val) : Val := r.headD default
def StM.ins (A : StM) (i : Int) (r : List Val) : StM × Int × Int :=
  if A.fits i r then
    (if takenM (A.tab i) (keyOf r) then (A, 0, 60)
    else if !keptM (A.tab i) (keyOf r) && decide (A.room ≤ A.used) then (A, 0, 62)
    else (putM { A with last := A.last + 1 } i.toNat (A.tab i) (keyOf r) (plB false (A.last + 1) r), A.last + 1, 0))
  else (A, 0, 1)
def StM.rep (A : StM) (i : Int) (r : List Val) : StM × Int :=
  if A.fits i r then (if takenM (A.tab i) (keyOf r) then (putM A i.toNat (A.tab i) (keyOf r) (plB false (slotM (A.tab i) (keyOf r)).num r), 0) else (A, 61)) else (A, 1)
def StM.rmv (A : StM) (i : Int) (k : Val) : StM × Int :=
  if A.has i then (if takenM (A.tab i) k then (putM A i.toNat (A.tab i) k (plB true 0 []), 0) else (A, 61)) else (A, 1)
def StM.rst (A : StM) (i : Int) (r : List Val) (num : Int) : StM × Int :=
  if A.fits i r then (if keptM (A.tab i) (keyOf r) then (putM A i.toNat (A.tab i) (keyOf r) (plB false num r), 0) else (A, 61)) else (A, 1)
def StM.fre (A : StM) (i : Int) (k : Val) : StM × Int :=
  if A.has i then (if takenM (A.tab i) k then (A, 60) else if keptM (A.tab i) k then ({ A with tabs := A.tabs.set i.toNat (delM (A.tab i) k), used := A.used - 1 }, 0) else (A, 61)) else (A, 1)

/-- what holds of a store to which n things were done -/
structure StI (n : Nat) (A : StM) : Prop where
  good : StGood A
  len : A.tabs.length = A.cols.length
  used : A.used = ((A.tabs.map List.length).sum : Nat)
  room : 0 ≤ A.room ∧ A.room ≤ 40
  full : A.used ≤ A.room
  last : 0 ≤ A.last ∧ A.last ≤ n
  tabs : ∀ m ∈ A.tabs, SortedL (tl m) ∧ RightL (tl m)

theorem sum_set : ∀ (L : List Nat) (i x y : Nat), L[i]? = some x → (L.set i y).sum + x = L.sum + y
  | [], _, _, _, h => by simp at h
  | a :: L, 0, x, y, h => by simp at h; subst h; simp; omega
  | a :: L, i + 1, x, y, h => by
    have := sum_set L i x y (by simpa using h)
    simp only [List.set_cons_succ, List.sum_cons]
    omega
theorem StI.more {n n' : Nat} {A : StM} (h : StI n A) (hn : n ≤ n') : StI n' A := ⟨h.good, h.len, h.used, h.room, h.full, ⟨h.last.1, by have := h.last.2; omega⟩, h.tabs⟩
theorem tl_len (m : TabM) : (tl m).length = m.length := by simp [tl]
theorem mem_insM {m : TabM} {k : Val} {p : PlM} {q : Val × PlM} (h : q ∈ insM m k p) : q = (k, p) ∨ q ∈ m := by
  unfold insM at h
  rcases List.mem_append.1 h with h | h
  · exact .inr (List.mem_filter.1 h).1
  · rcases List.mem_cons.1 h with h | h
    · exact .inl h
    · exact .inr (List.mem_filter.1 h).1
theorem has_isSome {m : TabM} {k : Val} (hr : RightL (tl m)) (hk : valRight k = true) : hasK (tl m) k = (atM m k).isSome := by
  rw [tl_has]
  unfold atM findM
  rw [Option.isSome_map]
  induction m with
  | nil => rfl
  | cons x m ih =>
    have hx : valRight x.1 = true := hr (x.1, x.2.s) (by simp [tl])
    have ih2 := ih (fun y hy => hr y (by simp [tl] at hy ⊢; exact .inr hy))
    rw [List.any_cons, List.find?_cons, ih2]
    by_cases h1 : x.1 = k
    · rw [h1, cmp_self]; simp
    · have h2 : valCmp x.1 k ≠ 0 := fun h => h1 (cmp_eq hx hk h)
      simp [h1, h2]
theorem taken_has {m : TabM} {k : Val} (hr : RightL (tl m)) (hk : valRight k = true) (h : takenM m k = true ∨ keptM m k = true) : hasK (tl m) k = true := by
  rw [has_isSome hr hk]
  unfold takenM keptM at h
  cases hh : atM m k with
  | none => rw [hh] at h; simp at h
  | some p => rfl
theorem neither_has {m : TabM} {k : Val} (hr : RightL (tl m)) (hk : valRight k = true) (h : takenM m k = false) (h2 : keptM m k = false) : hasK (tl m) k = false := by
  rw [has_isSome hr hk]
  unfold takenM keptM at *
  cases hh : atM m k with
  | none => rfl
  | some p => rw [hh] at h h2; simp at h h2; rw [h] at h2; cases h2
/-- an entry may stand there -/
def EntOk (c : List Bool) (p : Val × PlM) : Prop := (p.2.kept = true → p.2.num = 0 ∧ p.2.row = []) ∧ (p.2.kept = false → fitsT c p.2.row = true ∧ p.2.row.head? = some p.1)
theorem StI.put {n i : Nat} {A : StM} {c : List Bool} {m : TabM} {k : Val} {p : PlM} (h : StI n A) (hc : A.cols[i]? = some c) (hm : A.tabs[i]? = some m) (hk : valRight k = true) (hp : EntOk c (k, p)) (hr : hasK (tl m) k = true ∨ A.used + 1 ≤ A.room) : StI n (putM A i m k p) := by
  have hsr := h.tabs m (List.mem_of_getElem? hm)
  have hlen : (insM m k p).length = m.length + (if hasK (tl m) k then 0 else 1) := by
    have := insL_len (k := k) (v := p.s) hsr.1
    rw [tl_ins, tl_len, tl_len] at this
    exact this
  have hml : (A.tabs.map List.length)[i]? = some m.length := by rw [List.getElem?_map, hm]; rfl
  have hsum := sum_set _ i m.length (insM m k p).length hml
  have hu := h.used
  have hf := h.full
  refine ⟨⟨h.good.some_, h.good.may, fun j c' m' h1 h2 => ?_⟩, by unfold putM; simp [h.len], ?_, h.room, ?_, h.last, fun m' hm' => ?_⟩
  · unfold putM at h1 h2
    dsimp only at h1 h2
    by_cases hij : i = j
    · subst hij
      rw [List.getElem?_set_self (List.getElem?_eq_some_iff.1 hm).1] at h2
      cases h2
      rw [hc] at h1
      cases h1
      intro q hq
      rcases mem_insM hq with rfl | hq
      · exact hp
      · exact h.good.tabs i c m hc hm q hq
    · rw [List.getElem?_set_ne hij] at h2
      exact h.good.tabs j c' m' h1 h2
  · unfold putM
    dsimp only
    rw [List.map_set]
    cases hh : hasK (tl m) k
    · rw [hh] at hlen; simp at hlen ⊢; omega
    · rw [hh] at hlen; simp at hlen ⊢; omega
  · unfold putM
    dsimp only
    cases hh : hasK (tl m) k
    · rw [hh] at hr
      simp at hr ⊢
      exact hr
    · simpa using hf
  · unfold putM at hm'
    dsimp only at hm'
    rcases List.mem_or_eq_of_mem_set hm' with h1 | rfl
    · exact h.tabs m' h1
    · rw [← tl_ins]
      exact ⟨insL_sorted hsr.1, insL_right hk hsr.2⟩
theorem StI.del {n i : Nat} {A : StM} {m : TabM} {k : Val} (h : StI n A) (hm : A.tabs[i]? = some m) (hh : hasK (tl m) k = true) : StI n { A with tabs := A.tabs.set i (delM m k), used := A.used - 1 } := by
  have hsr := h.tabs m (List.mem_of_getElem? hm)
  have hlen : (delM m k).length + 1 = m.length := by
    have := delL_len (k := k) hsr.1
    rw [hh, tl_del, tl_len, tl_len] at this
    simpa using this
  have hml : (A.tabs.map List.length)[i]? = some m.length := by rw [List.getElem?_map, hm]; rfl
  have hsum := sum_set _ i m.length (delM m k).length hml
  have hu := h.used
  have hf := h.full
  refine ⟨⟨h.good.some_, h.good.may, fun j c' m' h1 h2 => ?_⟩, by simp [h.len], ?_, h.room, by dsimp only; omega, h.last, fun m' hm' => ?_⟩
  · dsimp only at h1 h2
    by_cases hij : i = j
    · subst hij
      rw [List.getElem?_set_self (List.getElem?_eq_some_iff.1 hm).1] at h2
      cases h2
      exact fun q hq => h.good.tabs i c' m h1 hm q (List.mem_filter.1 hq).1
    · rw [List.getElem?_set_ne hij] at h2
      exact h.good.tabs j c' m' h1 h2
  · dsimp only
    rw [List.map_set]
    omega
  · dsimp only at hm'
    rcases List.mem_or_eq_of_mem_set hm' with h1 | rfl
    · exact h.tabs m' h1
    · rw [← tl_del]
      exact ⟨delL_sorted hsr.1, delL_right hsr.2⟩
theorem StI.at {n : Nat} {A : StM} {i : Int} (h : StI n A) (hi : A.has i = true) : ∃ (j : Nat) (c : List Bool) (m : TabM), i = (j : Int) ∧ j < A.cols.length ∧ A.cols[j]? = some c ∧ A.tabs[j]? = some m ∧ A.tab i = m ∧ TabOk c m ∧ SortedL (tl m) ∧ RightL (tl m) := by
  rcases has_cases A i with ⟨_, j, rfl, hj⟩ | ⟨h2, _⟩
  · have hl := h.len
    refine ⟨j, A.cols[j], A.tabs[j]'(by omega), rfl, hj, List.getElem?_eq_getElem hj, List.getElem?_eq_getElem _, (tab_at hj (List.getElem?_eq_getElem _)).2, h.good.tabs j _ _ (List.getElem?_eq_getElem hj) (List.getElem?_eq_getElem _), ?_⟩
    exact h.tabs _ (List.getElem_mem _)
  · rw [hi] at h2; cases h2
theorem fits_key {A : StM} {i : Int} {r : List Val} {n : Nat} (h : StI n A) (hf : A.fits i r = true) : ∃ (j : Nat) (c : List Bool) (m : TabM), i = (j : Int) ∧ j < A.cols.length ∧ A.cols[j]? = some c ∧ A.tabs[j]? = some m ∧ A.tab i = m ∧ TabOk c m ∧ SortedL (tl m) ∧ RightL (tl m) ∧ fitsT c r = true ∧ r.head? = some (keyOf r) ∧ valRight (keyOf r) = true ∧ r.length ≤ 4 := by
  unfold StM.fits at hf
  rw [Bool.and_eq_true] at hf
  obtain ⟨j, c, m, rfl, h2, h3, h4, h5, h6, h7, h8⟩ := h.at hf.1
  have hft : fitsT c r = true := by simpa [h3] using hf.2
  obtain ⟨q1, q2, q3, q4⟩ := fits_len hft
  have hh : r.head? = some (keyOf r) := by
    unfold keyOf
    cases r with
    | nil => simp at q1
    | cons x r => rfl
  refine ⟨j, c, m, rfl, h2, h3, h4, h5, h6, h7, h8, hft, hh, ?_, q2⟩
  unfold fitsT fitAt at hft
  rw [Bool.and_eq_true] at hft
  cases r with
  | nil => simp at q1
  | cons x r =>
    cases c with
    | nil => simp at q4
    | cons b c =>
      have := hft.2
      simp at this
      exact this.1.2
theorem row_ent {c : List Bool} {r : List Val} {num : Int} (hf : fitsT c r = true) (hh : r.head? = some (keyOf r)) : EntOk c (keyOf r, plB false num r) := ⟨fun h => (by cases h), fun _ => ⟨hf, hh⟩⟩
theorem StI.ins {n : Nat} {A : StM} (h : StI n A) (i : Int) (r : List Val) : StI (n + 1) (A.ins i r).1 := by
  unfold StM.ins
  cases hf : A.fits i r
  · exact h.more (Nat.le_succ n)
  · obtain ⟨j, c, m, rfl, h2, h3, h4, h5, h6, h7, h8, h9, h10, h11, h12⟩ := fits_key h hf
    rw [if_pos rfl, h5]
    cases ht : takenM m (keyOf r)
    · rw [if_neg (by simp)]
      cases hb : (!keptM m (keyOf r) && decide (A.room ≤ A.used))
      · rw [if_neg (by simp)]
        have hl : 0 ≤ A.last + 1 ∧ A.last + 1 ≤ ((n + 1 : Nat) : Int) := by
          have := h.last
          omega
        have h' : StI (n + 1) { A with last := A.last + 1 } := ⟨⟨h.good.some_, h.good.may, h.good.tabs⟩, h.len, h.used, h.room, h.full, hl, h.tabs⟩
        refine h'.put h3 h4 h11 (row_ent h9 h10) ?_
        cases hk : keptM m (keyOf r)
        · rw [hk] at hb
          simp at hb
          exact .inr (by dsimp only; omega)
        · exact .inl (taken_has h8 h11 (.inr hk))
      · rw [if_pos rfl]; exact h.more (Nat.le_succ n)
    · rw [if_pos rfl]; exact h.more (Nat.le_succ n)
theorem StI.rep {n : Nat} {A : StM} (h : StI n A) (i : Int) (r : List Val) : StI (n + 1) (A.rep i r).1 := by
  unfold StM.rep
  cases hf : A.fits i r
  · exact h.more (Nat.le_succ n)
  · obtain ⟨j, c, m, rfl, h2, h3, h4, h5, h6, h7, h8, h9, h10, h11, h12⟩ := fits_key h hf
    rw [if_pos rfl, h5]
    cases ht : takenM m (keyOf r)
    · rw [if_neg (by simp)]; exact h.more (Nat.le_succ n)
    · rw [if_pos rfl]
      exact (h.more (Nat.le_succ n)).put h3 h4 h11 (row_ent h9 h10) (.inl (taken_has h8 h11 (.inl ht)))
theorem StI.rst {n : Nat} {A : StM} (h : StI n A) (i : Int) (r : List Val) (num : Int) : StI (n + 1) (A.rst i r num).1 := by
  unfold StM.rst
  cases hf : A.fits i r
  · exact h.more (Nat.le_succ n)
  · obtain ⟨j, c, m, rfl, h2, h3, h4, h5, h6, h7, h8, h9, h10, h11, h12⟩ := fits_key h hf
    rw [if_pos rfl, h5]
    cases ht : keptM m (keyOf r)
    · rw [if_neg (by simp)]; exact h.more (Nat.le_succ n)
    · rw [if_pos rfl]
      exact (h.more (Nat.le_succ n)).put h3 h4 h11 (row_ent h9 h10) (.inl (taken_has h8 h11 (.inr ht)))
theorem mem_right {m : TabM} {k : Val} (hr : RightL (tl m)) (h : takenM m k = true ∨ keptM m k = true) : valRight k = true := by
  obtain ⟨p, hp⟩ : ∃ p, atM m k = some p := by
    unfold takenM keptM at h
    cases hh : atM m k with
    | none => rw [hh] at h; simp at h
    | some p => exact ⟨p, rfl⟩
  exact hr (k, p.s) (List.mem_map.2 ⟨(k, p), atM_mem hp, rfl⟩)
theorem StI.rmv {n : Nat} {A : StM} (h : StI n A) (i : Int) (k : Val) : StI (n + 1) (A.rmv i k).1 := by
  unfold StM.rmv
  cases hf : A.has i
  · exact h.more (Nat.le_succ n)
  · obtain ⟨j, c, m, rfl, h2, h3, h4, h5, h6, h7, h8⟩ := h.at hf
    rw [if_pos rfl, h5]
    cases ht : takenM m k
    · rw [if_neg (by simp)]; exact h.more (Nat.le_succ n)
    · rw [if_pos rfl]
      have hk := mem_right h8 (.inl ht)
      exact (h.more (Nat.le_succ n)).put h3 h4 hk ⟨fun _ => ⟨rfl, rfl⟩, fun h => by cases h⟩ (.inl (taken_has h8 hk (.inl ht)))
theorem StI.fre {n : Nat} {A : StM} (h : StI n A) (i : Int) (k : Val) : StI (n + 1) (A.fre i k).1 := by
  unfold StM.fre
  cases hf : A.has i
  · exact h.more (Nat.le_succ n)
  · obtain ⟨j, c, m, rfl, h2, h3, h4, h5, h6, h7, h8⟩ := h.at hf
    rw [if_pos rfl, h5]
    cases ht : takenM m k
    · rw [if_neg (by simp)]
      cases hk : keptM m k
      · rw [if_neg (by simp)]; exact h.more (Nat.le_succ n)
      · rw [if_pos rfl]
        exact (h.more (Nat.le_succ n)).del h4 (taken_has h8 (mem_right h8 (.inr hk)) (.inr hk))
    · rw [if_pos rfl]; exact h.more (Nat.le_succ n)
end Go.Proofs.Ytcbklkcpjldcjaa
