/- ratlinelaw07.done: an act over the log and the reference. -/
import Derived.Test.YtokcpmeoiblpfaaRef07e
namespace Go.Proofs.Ytokcpmeoiblpfaa
open Go.ChangeShapes Go.WideShapes Go.ChangeAt Go.RowKit
set_option maxRecDepth 100000
set_option linter.unusedSimpArgs false

abbrev tAct : TypeId := 48
/-- the log and the reference hold the same -/
structure Both (D : PH) (m : LogM) (ps : List EA) : Prop where
  es : EntsA D m.es ps
  le : m.es.length ≤ m.room
  r0 : 0 ≤ m.room
  r60 : m.room ≤ 60
  sv : ∀ n, 1 ≤ n → n ≤ 3 → 0 ≤ m.getS n ∧ m.getS n ≤ m.es.length + 1
  wf : ∀ a ∈ ps, ∀ x ∈ a.2, x.wf
theorem Both.mono {D D' : PH} {m : LogM} {ps : List EA} (h : Both D m ps) (le : PH.le D D') : Both D' m ps := ⟨h.es.mono le, h.le, h.r0, h.r60, h.sv, h.wf⟩
theorem RefAt.shape6 {D : PH} {lv sv mv : Value} {m : LogM} {ps : List EA} (h : RefAt D lv sv mv m ps) : ∃ lo x lc so sc mo y mc, lv = .slice lo x lc ∧ sv = .slice so 4 sc ∧ mv = .slice mo y mc := by
  obtain ⟨lo, lc, so, sc, mo, mc, h1, h2, h3⟩ := h.shapes
  exact ⟨lo, _, lc, so, sc, mo, _, mc, h1, h2, h3⟩
def DonePost (B : World) (D : PH) (l : List HP) (b : Nat) (M : Nat) (e : Ending) (w' : World) : Prop :=
  ∃ (m' : LogM) (ps' : List EA) (D' : PH) (lv sv mv : Value), e = .returned (.tuple #[.agg #[.int .i64 m'.room, lv, sv, mv], .bool true]) ∧ PH.le D D' ∧ RefAt D' lv sv mv m' ps' ∧ Both D' m' ps' ∧ m'.met.length ≤ M + 1 ∧ Sat B D' w' (logP b m' :: l)
theorem Sat.four {B w : World} {D : PH} {l : List HP} {A C E F G : HP} (hs : Sat B D w (A :: C :: E :: F :: G :: l)) : Sat B D w (C :: l) := hs.drop.swap.drop.swap.drop.swap.drop

theorem Both.push {D D' : PH} {m : LogM} {ps : List EA} {et : Int} {ek : Val} {wv ew : Value} {a : EA} (h : Both D m ps) (le : PH.le D D') (ha : EntA D ⟨et, ek, ew⟩ a) (hw : RdP D' 3 wv a.2.length (a.2.flatMap Val.cells)) (hwf : ∀ x ∈ a.2, x.wf) (hr : m.es.length < m.room) :
    Both D' { m with es := m.es ++ [⟨et, ek, wv⟩], met := addMet m.met ⟨et, ek⟩ } (ps ++ [a]) :=
  ⟨(h.es.mono le).snoc ⟨ha.1, ha.2.1, hw⟩, by simp; omega, h.r0, h.r60, fun n h1 h3 => by
    have := h.sv n h1 h3
    exact ⟨this.1, by have h2 := this.2; show m.getS n ≤ _; simp; omega⟩, fun b hb => (List.mem_append.1 hb).elim (h.wf b) (fun hb => by simp at hb; subst hb; exact hwf)⟩
theorem Both.save {D : PH} {m : LogM} {ps : List EA} (h : Both D m ps) (n : Int) (hn : 1 ≤ n ∧ n ≤ 3) : Both D (m.setS n (m.es.length + 1)) ps := by
  obtain ⟨e1, e2, e3⟩ := setS_es m n (m.es.length + 1)
  refine ⟨by rw [e1]; exact h.es, by rw [e1, e2]; exact h.le, by rw [e2]; exact h.r0, by rw [e2]; exact h.r60, fun k h1 h3 => ?_, h.wf⟩
  rw [e1, getS_set m n _ k hn ⟨h1, h3⟩]
  split
  · omega
  · exact h.sv k h1 h3
theorem Both.back {D : PH} {m : LogM} {ps : List EA} (h : Both D m ps) (at_ : Nat) (hat : at_ ≤ m.es.length) : Both D (m.back (at_ + 1)) (ps.take at_) := by
  have e : (m.back (at_ + 1)).es = m.es.take at_ := by show m.es.take ((at_ : Int) + 1 - 1).toNat = _; rw [show ((at_ : Int) + 1 - 1).toNat = at_ by omega]
  refine ⟨by rw [e]; exact h.es.take _, by rw [e, List.length_take]; have := h.le; show _ ≤ m.room; omega, h.r0, h.r60, fun k h1 h3 => ?_, fun a ha => h.wf a (List.mem_of_mem_take ha)⟩
  rw [e, getS_back, List.length_take]
  have := h.sv k h1 h3
  unfold gone
  split <;> omega
theorem Both.fresh {D : PH} {r : Int} : Both D (newM r) [] :=
  ⟨EntsA.nil _, by show (0 : Int) ≤ clampI _; unfold clampI; split; omega; split <;> omega, by show (0 : Int) ≤ clampI _; unfold clampI; split; omega; split <;> omega, by show clampI _ ≤ 60; unfold clampI; split; omega; split <;> omega, fun k h1 h3 => by rw [getS_new]; simp [newM], fun a ha => by simp at ha⟩

set_option maxHeartbeats 4000000 in
theorem done_push {B w : World} {D : PH} {l : List HP} {b : Nat} {lv sv mv : Value} {m : LogM} {ps : List EA} {M : Nat} (kind n : Int) (e : Ent) (a : EA) (ha : EntA D e a) (hwf : e.spot.wf) (hwa : ∀ x ∈ a.2, x.wf) (h100 : a.2.length ≤ 100)
    (hM : m.met.length ≤ M) (hM' : M ≤ 900) (hb : Both D m ps) (hr : RefAt D lv sv mv m ps) (hs : Sat B D w (logP b m :: l)) (hq : bits .and .i64 kind 7 = 0 ∨ bits .and .i64 kind 7 = 1 ∨ bits .and .i64 kind 7 = 2 ∨ bits .and .i64 kind 7 = 3) :
    Calls Try.prog 17 #[.pointer (some ⟨b, 0, none⟩), .agg #[.int .i64 m.room, lv, sv, mv], .agg #[.int .i64 kind, .int .i64 n, .int .i64 e.t, .bool e.k.t, .int .i64 e.k.n, .string e.k.s, e.was]] w (DonePost B D l b M) := by
  obtain ⟨lo, lc, so, sc, mo, mc, rfl, rfl, rfl⟩ := hr.shapes
  obtain ⟨et, ek, ew⟩ := e
  have hew := ha.2.2.oneV
  have h0 := ((hs.alloc #[.int .i64 m.room, .slice lo ps.length lc, .slice so 4 sc, .slice mo m.met.length mc] tRef).alloc #[.int .i64 kind, .int .i64 n, .int .i64 et, .bool ek.t, .int .i64 ek.n, .string ek.s, ew] tAct).alloc #[.int .i64 0, .slice none 0 0, .slice none 0 0, .slice none 0 0] tRef
  simp only [World.size_alloc] at h0
  have hlen := hb.es.1
  have h60 : m.es.length ≤ 60 := by have := hb.le; have := hb.r60; omega
  have hr60 := hb.r60
  have HS := Lib.hid h0
  have HA := Lib.hid ha
  have HWF := Lib.hid hwf
  have HWA := Lib.hid hwa
  have HB := Lib.hid hb
  have HR := Lib.hid hr
  have HONE := Lib.hid (show ∀ u ∈ a.2.flatMap Val.cells, u.oneCell' = true from fun u hu => by
    obtain ⟨x, _, hx⟩ := List.mem_flatMap.1 hu
    exact Val.one x u hx)
  have HLEN := Lib.hid hlen
  have hl1 : ps.length ≤ m.es.length := by omega
  have hl2 : m.es.length ≤ ps.length := by omega
  clear h0 ha hwf hwa hb hr hs hlen
  go_enter Try.func17, Try.ntmps17
  go_upto_region 1 with (fail)
  obtain ⟨W, hW, hsW⟩ := HS.out.hide
  rw [← hW]
  clear HS hW
  generalize w.heap.size + 1 + 1 = b2 at hsW ⊢
  generalize w.heap.size + 1 = b1 at hsW ⊢
  generalize w.heap.size = b0 at hsW ⊢
  have hsL := hsW.front 3 rfl
  simp only [List.eraseIdx_cons_succ, List.eraseIdx_cons_zero] at hsL
  obtain ⟨c0, c1, c2, c3, cf⟩ := cells4 (hsW.blk 2 rfl)
  obtain ⟨d0, d1, d2, d3, d4, d5, d6, df⟩ := cells7 (hsW.blk 1 rfl)
  have HW := Lib.hid hsL
  clear hsW hsL
  go_upto_region 2 with (fail)
  generalize bits .and .i64 kind 7 = q at hq ⊢
  rcases hq with rfl | rfl | rfl | rfl
  all_goals
    go_upto_region 6 with (fail)
    by_cases hroom : (m.es.length : Int) < m.room
    · go_upto_region 7 with (go_at_call 12; refine (push_p ⟨et, ek, ew⟩ hroom (by omega) HA.out.2.2 HONE.out (by omega) HWF.out (by omega) HW.out).mono ?_; rintro e1 w1 ⟨rfl, D1, wv, g1, r1, hs1⟩; have HS1 := Lib.hid hs1; have HG1 := Lib.hid g1; have HR1 := Lib.hid r1; clear hs1 g1 r1)
      clear c0 c1 c2 c3 cf d0 d1 d2 d3 d4 d5 d6 df
      obtain ⟨c0, c1, c2, c3, cf⟩ := cells4 (HS1.out.blk 3 rfl)
      obtain ⟨d0, d1, d2, d3, d4, d5, d6, df⟩ := cells7 (HS1.out.blk 2 rfl)
      go_upto_region 8 with (go_at_call 22; refine (pushR_ok ⟨et, ek, ew⟩ a (HA.out.mono HG1.out) (by omega) (by omega) (by omega) (HR.out.mono HG1.out) HS1.out).mono ?_; rintro e2 w2 ⟨cs2, rfl, n1, n2, n3, D2, rfl, g2, r2, hs2⟩; obtain ⟨p1, x1, p2, p3, p4, p5, x2, p6, rfl, rfl, rfl⟩ := r2.shape6; have HS2 := Lib.hid hs2; have HG2 := Lib.hid g2; have HR2 := Lib.hid r2; clear hs2 g2 r2)
      go_upto_region 8 with (fail)
      have hs3 := HS2.out.alloc #[.int .i64 (m.room), .slice p1 x1 p2, .slice p3 4 p4, .slice p5 x2 p6] tRef
      obtain ⟨W3, hW3, hs3⟩ := hs3.hide
      rw [← hW3]
      generalize w2.heap.size = b9 at hs3 ⊢
      clear hW3 c0 c1 c2 c3 cf d0 d1 d2 d3 d4 d5 d6 df HS2
      obtain ⟨c0, c1, c2, c3, cf⟩ := cells4 (hs3.blk 0 rfl)
      obtain ⟨z0, z1, z2, z3, zf⟩ := cells4 (hs3.blk 2 rfl)
      have HS3 := Lib.hid hs3
      clear hs3
      go_wp2_with (fail)
      have hadd := addMet_len m.met ⟨et, ek⟩
      refine bodyPost_ret (v := .tuple #[.agg #[.int .i64 m.room, .slice p1 x1 p2, .slice p3 4 p4, .slice p5 x2 p6], .bool true]) (by simp [results, Try.results17, go_sem, z0, z1, z2, z3, zf]) rfl ⟨{ m with es := m.es ++ [⟨et, ek, wv⟩], met := addMet m.met ⟨et, ek⟩ }, ps ++ [a], D2, _, _, _, rfl, HG1.out.trans HG2.out, HR2.out, (HB.out.push HG1.out HA.out HR1.out HWA.out hroom).mono HG2.out, by show (addMet _ _).length ≤ _; omega, ?_⟩
      exact (HS3.out.modify 2 rfl (fun _ h => h.set4 _ _ _ _)).four
    · go_upto_region 7 with (go_at_call 12; refine (full_p ⟨et, ek, ew⟩ (by omega) HW.out).mono ?_; rintro e1 w1 ⟨rfl, hs1⟩; have HS1 := Lib.hid hs1; clear hs1)
      clear c0 c1 c2 c3 cf d0 d1 d2 d3 d4 d5 d6 df
      obtain ⟨c0, c1, c2, c3, cf⟩ := cells4 (HS1.out.blk 3 rfl)
      obtain ⟨d0, d1, d2, d3, d4, d5, d6, df⟩ := cells7 (HS1.out.blk 2 rfl)
      go_upto_region 8 with (go_at_call 22; refine (pushR_full ⟨et, ek, ew⟩ (by omega) HR.out HS1.out).mono ?_; rintro e2 w2 ⟨cs2, rfl, n1, n2, n3, D2, rfl, g2, r2, hs2⟩; obtain ⟨p1, x1, p2, p3, p4, p5, x2, p6, rfl, rfl, rfl⟩ := r2.shape6; have HS2 := Lib.hid hs2; have HG2 := Lib.hid g2; have HR2 := Lib.hid r2; clear hs2 g2 r2)
      go_upto_region 8 with (fail)
      have hs3 := HS2.out.alloc #[.int .i64 (m.room), .slice p1 x1 p2, .slice p3 4 p4, .slice p5 x2 p6] tRef
      obtain ⟨W3, hW3, hs3⟩ := hs3.hide
      rw [← hW3]
      generalize w2.heap.size = b9 at hs3 ⊢
      clear hW3 c0 c1 c2 c3 cf d0 d1 d2 d3 d4 d5 d6 df HS2
      obtain ⟨c0, c1, c2, c3, cf⟩ := cells4 (hs3.blk 0 rfl)
      obtain ⟨z0, z1, z2, z3, zf⟩ := cells4 (hs3.blk 2 rfl)
      have HS3 := Lib.hid hs3
      clear hs3
      go_wp2_with (fail)
      refine bodyPost_ret (v := .tuple #[.agg #[.int .i64 m.room, .slice p1 x1 p2, .slice p3 4 p4, .slice p5 x2 p6], .bool true]) (by simp [results, Try.results17, go_sem, z0, z1, z2, z3, zf]) rfl ⟨m, ps, D2, _, _, _, rfl, HG2.out, HR2.out, HB.out.mono HG2.out, by omega, ?_⟩
      exact (HS3.out.modify 2 rfl (fun _ h => h.set4 _ _ _ _)).four

set_option maxHeartbeats 4000000 in
theorem done_save {B w : World} {D : PH} {l : List HP} {b : Nat} {lv sv mv : Value} {m : LogM} {ps : List EA} {M : Nat} (kind n : Int) (e : Ent) (a : EA) (ha : EntA D e a) (hwf : e.spot.wf) (hwa : ∀ x ∈ a.2, x.wf) (h100 : a.2.length ≤ 100)
    (hM : m.met.length ≤ M) (hM' : M ≤ 900) (hb : Both D m ps) (hr : RefAt D lv sv mv m ps) (hs : Sat B D w (logP b m :: l)) (hq4 : bits .and .i64 kind 7 = 4) :
    Calls Try.prog 17 #[.pointer (some ⟨b, 0, none⟩), .agg #[.int .i64 m.room, lv, sv, mv], .agg #[.int .i64 kind, .int .i64 n, .int .i64 e.t, .bool e.k.t, .int .i64 e.k.n, .string e.k.s, e.was]] w (DonePost B D l b M) := by
  obtain ⟨lo, lc, so, sc, mo, mc, rfl, rfl, rfl⟩ := hr.shapes
  obtain ⟨et, ek, ew⟩ := e
  have hew := ha.2.2.oneV
  have h0 := ((hs.alloc #[.int .i64 m.room, .slice lo ps.length lc, .slice so 4 sc, .slice mo m.met.length mc] tRef).alloc #[.int .i64 kind, .int .i64 n, .int .i64 et, .bool ek.t, .int .i64 ek.n, .string ek.s, ew] tAct).alloc #[.int .i64 0, .slice none 0 0, .slice none 0 0, .slice none 0 0] tRef
  simp only [World.size_alloc] at h0
  have hlen := hb.es.1
  have h60 : m.es.length ≤ 60 := by have := hb.le; have := hb.r60; omega
  have hr60 := hb.r60
  have HS := Lib.hid h0
  have HA := Lib.hid ha
  have HWF := Lib.hid hwf
  have HWA := Lib.hid hwa
  have HB := Lib.hid hb
  have HR := Lib.hid hr
  have HONE := Lib.hid (show ∀ u ∈ a.2.flatMap Val.cells, u.oneCell' = true from fun u hu => by
    obtain ⟨x, _, hx⟩ := List.mem_flatMap.1 hu
    exact Val.one x u hx)
  have HLEN := Lib.hid hlen
  have hl1 : ps.length ≤ m.es.length := by omega
  have hl2 : m.es.length ≤ ps.length := by omega
  clear h0 ha hwf hwa hb hr hs hlen
  go_enter Try.func17, Try.ntmps17
  go_upto_region 1 with (fail)
  obtain ⟨W, hW, hsW⟩ := HS.out.hide
  rw [← hW]
  clear HS hW
  generalize w.heap.size + 1 + 1 = b2 at hsW ⊢
  generalize w.heap.size + 1 = b1 at hsW ⊢
  generalize w.heap.size = b0 at hsW ⊢
  have hsL := hsW.front 3 rfl
  simp only [List.eraseIdx_cons_succ, List.eraseIdx_cons_zero] at hsL
  obtain ⟨c0, c1, c2, c3, cf⟩ := cells4 (hsW.blk 2 rfl)
  obtain ⟨d0, d1, d2, d3, d4, d5, d6, df⟩ := cells7 (hsW.blk 1 rfl)
  have HW := Lib.hid hsL
  clear hsW hsL
  go_upto_region 2 with (fail)
  generalize bits .and .i64 kind 7 = q at hq4 ⊢
  subst hq4
  go_upto_region 10 with (fail)
  by_cases hn : 1 ≤ n ∧ n ≤ 3
  · go_upto_region 11 with (go_at_call 11; refine (save_p n hn h60 HW.out).mono ?_; rintro e1 w1 ⟨rfl, hs1⟩; have HS1 := Lib.hid hs1; clear hs1)
    clear c0 c1 c2 c3 cf d0 d1 d2 d3 d4 d5 d6 df
    obtain ⟨c0, c1, c2, c3, cf⟩ := cells4 (HS1.out.blk 3 rfl)
    obtain ⟨d0, d1, d2, d3, d4, d5, d6, df⟩ := cells7 (HS1.out.blk 2 rfl)
    go_upto_region 12 with (go_at_call 23; refine (saveR_ok n hn (by omega) HR.out HS1.out).mono ?_; rintro e2 w2 ⟨cs2, rfl, n1, n2, n3, D2, rfl, g2, r2, hs2⟩; obtain ⟨p1, x1, p2, p3, p4, p5, x2, p6, rfl, rfl, rfl⟩ := r2.shape6; have HS2 := Lib.hid hs2; have HG2 := Lib.hid g2; have HR2 := Lib.hid r2; clear hs2 g2 r2)
    go_upto_region 12 with (fail)
    have hs3 := HS2.out.alloc #[.int .i64 (m.room), .slice p1 x1 p2, .slice p3 4 p4, .slice p5 x2 p6] tRef
    obtain ⟨W3, hW3, hs3⟩ := hs3.hide
    rw [← hW3]
    generalize w2.heap.size = b9 at hs3 ⊢
    clear hW3 c0 c1 c2 c3 cf d0 d1 d2 d3 d4 d5 d6 df HS2
    obtain ⟨c0, c1, c2, c3, cf⟩ := cells4 (hs3.blk 0 rfl)
    obtain ⟨z0, z1, z2, z3, zf⟩ := cells4 (hs3.blk 2 rfl)
    have HS3 := Lib.hid hs3
    clear hs3
    go_wp2_with (fail)
    obtain ⟨f1, f2, f3⟩ := setS_es m n (m.es.length + 1)
    have hrr := HR2.out
    rw [← HLEN.out] at hrr
    refine bodyPost_ret (v := .tuple #[.agg #[.int .i64 m.room, .slice p1 x1 p2, .slice p3 4 p4, .slice p5 x2 p6], .bool true]) (by simp [results, Try.results17, go_sem, z0, z1, z2, z3, zf]) rfl ⟨m.setS n (m.es.length + 1), ps, D2, _, _, _, by rw [f2], HG2.out, hrr, (HB.out.save n hn).mono HG2.out, by rw [f3]; omega, ?_⟩
    exact (HS3.out.modify 2 rfl (fun _ h => h.set4 _ _ _ _)).four
  · have hn' : n < 1 ∨ 3 < n := by omega
    go_upto_region 11 with (go_at_call 11; refine (save_no n hn').mono ?_; rintro e1 w1 ⟨rfl, rfl⟩)
    go_upto_region 12 with (go_at_call 23; refine (saveR_no n hn' HR.out HW.out).mono ?_; rintro e2 w2 ⟨cs2, rfl, n1, n2, n3, D2, rfl, g2, r2, hs2⟩; obtain ⟨p1, x1, p2, p3, p4, p5, x2, p6, rfl, rfl, rfl⟩ := r2.shape6; have HS2 := Lib.hid hs2; have HG2 := Lib.hid g2; have HR2 := Lib.hid r2; clear hs2 g2 r2)
    go_upto_region 12 with (fail)
    have hs3 := HS2.out.alloc #[.int .i64 (m.room), .slice p1 x1 p2, .slice p3 4 p4, .slice p5 x2 p6] tRef
    obtain ⟨W3, hW3, hs3⟩ := hs3.hide
    rw [← hW3]
    generalize w2.heap.size = b9 at hs3 ⊢
    clear hW3 c0 c1 c2 c3 cf d0 d1 d2 d3 d4 d5 d6 df HS2
    obtain ⟨c0, c1, c2, c3, cf⟩ := cells4 (hs3.blk 0 rfl)
    obtain ⟨z0, z1, z2, z3, zf⟩ := cells4 (hs3.blk 2 rfl)
    have HS3 := Lib.hid hs3
    clear hs3
    go_wp2_with (fail)
    refine bodyPost_ret (v := .tuple #[.agg #[.int .i64 m.room, .slice p1 x1 p2, .slice p3 4 p4, .slice p5 x2 p6], .bool true]) (by simp [results, Try.results17, go_sem, z0, z1, z2, z3, zf]) rfl ⟨m, ps, D2, _, _, _, rfl, HG2.out, HR2.out, HB.out.mono HG2.out, by omega, ?_⟩
    exact (HS3.out.modify 2 rfl (fun _ h => h.set4 _ _ _ _)).four

set_option maxHeartbeats 4000000 in
theorem done_back {B w : World} {D : PH} {l : List HP} {b : Nat} {lv sv mv : Value} {m : LogM} {ps : List EA} {M : Nat} (kind n : Int) (e : Ent) (a : EA) (ha : EntA D e a) (hwf : e.spot.wf) (hwa : ∀ x ∈ a.2, x.wf) (h100 : a.2.length ≤ 100)
    (hM : m.met.length ≤ M) (hM' : M ≤ 900) (hb : Both D m ps) (hr : RefAt D lv sv mv m ps) (hs : Sat B D w (logP b m :: l)) (hq : bits .and .i64 kind 7 = 5 ∨ bits .and .i64 kind 7 = 6) :
    Calls Try.prog 17 #[.pointer (some ⟨b, 0, none⟩), .agg #[.int .i64 m.room, lv, sv, mv], .agg #[.int .i64 kind, .int .i64 n, .int .i64 e.t, .bool e.k.t, .int .i64 e.k.n, .string e.k.s, e.was]] w (DonePost B D l b M) := by
  obtain ⟨lo, lc, so, sc, mo, mc, rfl, rfl, rfl⟩ := hr.shapes
  obtain ⟨et, ek, ew⟩ := e
  have hew := ha.2.2.oneV
  have h0 := ((hs.alloc #[.int .i64 m.room, .slice lo ps.length lc, .slice so 4 sc, .slice mo m.met.length mc] tRef).alloc #[.int .i64 kind, .int .i64 n, .int .i64 et, .bool ek.t, .int .i64 ek.n, .string ek.s, ew] tAct).alloc #[.int .i64 0, .slice none 0 0, .slice none 0 0, .slice none 0 0] tRef
  simp only [World.size_alloc] at h0
  have hlen := hb.es.1
  have h60 : m.es.length ≤ 60 := by have := hb.le; have := hb.r60; omega
  have hr60 := hb.r60
  have HS := Lib.hid h0
  have HA := Lib.hid ha
  have HWF := Lib.hid hwf
  have HWA := Lib.hid hwa
  have HB := Lib.hid hb
  have HR := Lib.hid hr
  have HONE := Lib.hid (show ∀ u ∈ a.2.flatMap Val.cells, u.oneCell' = true from fun u hu => by
    obtain ⟨x, _, hx⟩ := List.mem_flatMap.1 hu
    exact Val.one x u hx)
  have HLEN := Lib.hid hlen
  have hl1 : ps.length ≤ m.es.length := by omega
  have hl2 : m.es.length ≤ ps.length := by omega
  clear h0 ha hwf hwa hb hr hs hlen
  go_enter Try.func17, Try.ntmps17
  go_upto_region 1 with (fail)
  obtain ⟨W, hW, hsW⟩ := HS.out.hide
  rw [← hW]
  clear HS hW
  generalize w.heap.size + 1 + 1 = b2 at hsW ⊢
  generalize w.heap.size + 1 = b1 at hsW ⊢
  generalize w.heap.size = b0 at hsW ⊢
  have hsL := hsW.front 3 rfl
  simp only [List.eraseIdx_cons_succ, List.eraseIdx_cons_zero] at hsL
  obtain ⟨c0, c1, c2, c3, cf⟩ := cells4 (hsW.blk 2 rfl)
  obtain ⟨d0, d1, d2, d3, d4, d5, d6, df⟩ := cells7 (hsW.blk 1 rfl)
  have HW := Lib.hid hsL
  clear hsW hsL
  go_upto_region 2 with (fail)
  rcases hq with hq | hq
  all_goals
    generalize bits .and .i64 kind 7 = q at hq ⊢
    subst hq
    go_upto_region 15 with (fail)
    by_cases hn : n < 1 ∨ 3 < n ∨ m.getS n = 0
    · go_upto_region 16 with (go_at_call 10; refine (backno_p n hn HW.out).mono ?_; rintro e1 w1 ⟨rfl, rfl⟩)
      go_upto_region 17 with (go_at_call 24; refine (backR_no n hn HR.out HW.out).mono ?_; rintro e2 w2 ⟨cs2, rfl, n1, n2, n3, D2, rfl, g2, r2, hs2⟩; obtain ⟨p1, x1, p2, p3, p4, p5, x2, p6, rfl, rfl, rfl⟩ := r2.shape6; have HS2 := Lib.hid hs2; have HG2 := Lib.hid g2; have HR2 := Lib.hid r2; clear hs2 g2 r2)
      go_upto_region 17 with (fail)
      have hs3 := HS2.out.alloc #[.int .i64 (m.room), .slice p1 x1 p2, .slice p3 4 p4, .slice p5 x2 p6] tRef
      obtain ⟨W3, hW3, hs3⟩ := hs3.hide
      rw [← hW3]
      generalize w2.heap.size = b9 at hs3 ⊢
      clear hW3 c0 c1 c2 c3 cf d0 d1 d2 d3 d4 d5 d6 df HS2
      obtain ⟨c0, c1, c2, c3, cf⟩ := cells4 (hs3.blk 0 rfl)
      obtain ⟨z0, z1, z2, z3, zf⟩ := cells4 (hs3.blk 2 rfl)
      have HS3 := Lib.hid hs3
      clear hs3
      have HS4 := Lib.hid HS3.out.drew
      have HNIL := Lib.hid (show EntsP D2 (.slice none 0 0) [] from ⟨[], RdP.nil _ _, EntsA.nil _⟩)
      refine wp_region_canon [(0, false, 9), (1, false, 7), (2, false, 7), (3, false, 7), (4, false, 7), (5, false, 7), (6, false, 7), (7, true, 0), (8, false, 999), (9, true, 0), (10, false, 999)] (by kernel_rfl) (by kernel_rfl) ?_
      iterate 5 (refine wpCan_read rfl rfl (fun K hK => ?_); go_simp; refine hK _ ?_; clear hK K)
      first | (refine wpCan_no rfl rfl ?_; simp only [Act.put, List.setIfInBounds_toArray, List.set_cons_succ, List.set_cons_zero]) | (refine wpCan_yes rfl rfl (fun K hK => ?_); go_simp; refine hK _ ?_; clear hK K)
      first | (refine wpCan_no rfl rfl ?_; simp only [Act.put, List.setIfInBounds_toArray, List.set_cons_succ, List.set_cons_zero]) | (refine wpCan_yes rfl rfl (fun K hK => ?_); go_simp; refine hK _ ?_; clear hK K)
      refine wpCan_eff rfl ?_
      refine wpList_do rfl (fun K hK => ?_)
      go_simp
      refine (sameE_ok HNIL.out HNIL.out (by simp) (by simp) HS4.out).mono ?_
      rintro e5 w5 ⟨rfl, hs5⟩
      clear c0 c1 c2 c3 cf z0 z1 z2 z3 zf
      obtain ⟨c0, c1, c2, c3, cf⟩ := cells4 (hs5.blk 0 rfl)
      obtain ⟨z0, z1, z2, z3, zf⟩ := cells4 (hs5.blk 2 rfl)
      have HS5 := Lib.hid hs5
      clear hs5
      refine hK _ _ ?_
      clear hK K
      refine wpList_nil ?_
      refine And.intro ?_ ?_
      · go_simp
      iterate 1 (refine wpCan_read rfl rfl (fun K hK => ?_); go_simp; refine hK _ ?_; clear hK K)
      refine wpCan_eff rfl ?_
      refine wpList_plain rfl (fun K hK => ?_)
      go_simp
      refine hK _ _ ?_
      clear hK K
      refine wpList_nil ?_
      refine And.intro ?_ ?_
      · go_simp
      iterate 1 (refine wpCan_read rfl rfl (fun K hK => ?_); go_simp; refine hK _ ?_; clear hK K)
      refine wpCan_nil ?_
      go_wp2_with (fail)
      refine bodyPost_ret (v := .tuple #[.agg #[.int .i64 m.room, .slice p1 x1 p2, .slice p3 4 p4, .slice p5 x2 p6], .bool true]) (by simp [results, Try.results17, go_sem, z0, z1, z2, z3, zf]) rfl ⟨m, ps, D2, _, _, _, rfl, HG2.out, HR2.out, HB.out.mono HG2.out, by omega, ?_⟩
      exact (HS5.out.modify 2 rfl (fun _ h => h.set4 _ _ _ _)).four
    · have hn1 : 1 ≤ n ∧ n ≤ 3 := by omega
      have hsv := HB.out.sv n hn1.1 hn1.2
      obtain ⟨at_, hat⟩ : ∃ at_ : Nat, m.getS n = at_ + 1 := ⟨(m.getS n - 1).toNat, by omega⟩
      have HAT := Lib.hid hat
      have hatl : at_ ≤ m.es.length := by omega
      clear hat hsv
      go_upto_region 16 with (go_at_call 10; refine (back_p n at_ h60 hn1 HAT.out hatl HW.out).mono ?_; rintro e1 w1 ⟨v1, D1, rfl, g1, r1, hs1⟩; obtain ⟨a1, k1, rfl⟩ := r1.shape; have HS1 := Lib.hid hs1; have HG1 := Lib.hid g1; have HR1 := Lib.hid r1; clear hs1 g1 r1)
      clear c0 c1 c2 c3 cf d0 d1 d2 d3 d4 d5 d6 df
      obtain ⟨c0, c1, c2, c3, cf⟩ := cells4 (HS1.out.blk 3 rfl)
      obtain ⟨d0, d1, d2, d3, d4, d5, d6, df⟩ := cells7 (HS1.out.blk 2 rfl)
      go_upto_region 17 with (go_at_call 24; refine (backR_ok n hn1 at_ HAT.out (by omega) (by omega) (HR.out.mono HG1.out) HS1.out).mono ?_; rintro e2 w2 ⟨cs2, v2, rfl, D2, g2, ⟨n1, n2, n3, rfl, r2⟩, t2, hs2⟩; obtain ⟨p1, x1, p2, p3, p4, p5, x2, p6, rfl, rfl, rfl⟩ := r2.shape6; have HS2 := Lib.hid hs2; have HG2 := Lib.hid g2; have HR2 := Lib.hid r2; have HT2 := Lib.hid t2; clear hs2 g2 r2 t2)
      go_upto_region 17 with (fail)
      have hs3 := HS2.out.alloc #[.int .i64 (m.room), .slice p1 x1 p2, .slice p3 4 p4, .slice p5 x2 p6] tRef
      obtain ⟨W3, hW3, hs3⟩ := hs3.hide
      rw [← hW3]
      generalize w2.heap.size = b9 at hs3 ⊢
      clear hW3 c0 c1 c2 c3 cf d0 d1 d2 d3 d4 d5 d6 df HS2
      obtain ⟨c0, c1, c2, c3, cf⟩ := cells4 (hs3.blk 0 rfl)
      obtain ⟨z0, z1, z2, z3, zf⟩ := cells4 (hs3.blk 2 rfl)
      have HS3 := Lib.hid hs3
      clear hs3
      have HS4 := Lib.hid HS3.out.drew
      have HT1 := Lib.hid (show EntsP D2 (.slice a1 (m.es.length - at_) k1) (ps.drop at_).reverse from ⟨(m.es.drop at_).reverse, by rw [List.length_reverse, List.length_drop]; exact HR1.out.mono HG2.out, ((HB.out.es.mono (HG1.out.trans HG2.out)).drop _).reverse⟩)
      have HWF1 := Lib.hid (show ∀ a ∈ (ps.drop at_).reverse, ∀ x ∈ a.2, x.wf from fun a ha => HB.out.wf a (List.mem_of_mem_drop (List.mem_reverse.1 ha)))
      refine wp_region_canon [(0, false, 9), (1, false, 7), (2, false, 7), (3, false, 7), (4, false, 7), (5, false, 7), (6, false, 7), (7, true, 0), (8, false, 999), (9, true, 0), (10, false, 999)] (by kernel_rfl) (by kernel_rfl) ?_
      iterate 5 (refine wpCan_read rfl rfl (fun K hK => ?_); go_simp; refine hK _ ?_; clear hK K)
      first | (refine wpCan_no rfl rfl ?_; simp only [Act.put, List.setIfInBounds_toArray, List.set_cons_succ, List.set_cons_zero]) | (refine wpCan_yes rfl rfl (fun K hK => ?_); go_simp; refine hK _ ?_; clear hK K)
      first | (refine wpCan_no rfl rfl ?_; simp only [Act.put, List.setIfInBounds_toArray, List.set_cons_succ, List.set_cons_zero]) | (refine wpCan_yes rfl rfl (fun K hK => ?_); go_simp; refine hK _ ?_; clear hK K)
      refine wpCan_eff rfl ?_
      refine wpList_do rfl (fun K hK => ?_)
      go_simp
      refine (sameE_ok HT1.out HT2.out HWF1.out HWF1.out HS4.out).mono ?_
      rintro e5 w5 ⟨rfl, hs5⟩
      clear c0 c1 c2 c3 cf z0 z1 z2 z3 zf
      obtain ⟨c0, c1, c2, c3, cf⟩ := cells4 (hs5.blk 0 rfl)
      obtain ⟨z0, z1, z2, z3, zf⟩ := cells4 (hs5.blk 2 rfl)
      have HS5 := Lib.hid hs5
      clear hs5
      simp only [decide_true]
      refine hK _ _ ?_
      clear hK K
      refine wpList_nil ?_
      refine And.intro ?_ ?_
      · go_simp
      iterate 1 (refine wpCan_read rfl rfl (fun K hK => ?_); go_simp; refine hK _ ?_; clear hK K)
      refine wpCan_eff rfl ?_
      refine wpList_plain rfl (fun K hK => ?_)
      go_simp
      refine hK _ _ ?_
      clear hK K
      refine wpList_nil ?_
      refine And.intro ?_ ?_
      · go_simp
      iterate 1 (refine wpCan_read rfl rfl (fun K hK => ?_); go_simp; refine hK _ ?_; clear hK K)
      refine wpCan_nil ?_
      go_wp2_with (fail)
      refine bodyPost_ret (v := .tuple #[.agg #[.int .i64 m.room, .slice p1 x1 p2, .slice p3 4 p4, .slice p5 x2 p6], .bool true]) (by simp [results, Try.results17, go_sem, z0, z1, z2, z3, zf]) rfl ⟨m.back (at_ + 1), ps.take at_, D2, _, _, _, rfl, HG1.out.trans HG2.out, HR2.out, (HB.out.back at_ hatl).mono (HG1.out.trans HG2.out), by show m.met.length ≤ _; omega, ?_⟩
      exact (HS5.out.modify 2 rfl (fun _ h => h.set4 _ _ _ _)).four

set_option maxHeartbeats 4000000 in
theorem done_all {B w : World} {D : PH} {l : List HP} {b : Nat} {lv sv mv : Value} {m : LogM} {ps : List EA} {M : Nat} (kind n : Int) (e : Ent) (a : EA) (ha : EntA D e a) (hwf : e.spot.wf) (hwa : ∀ x ∈ a.2, x.wf) (h100 : a.2.length ≤ 100)
    (hM : m.met.length ≤ M) (hM' : M ≤ 900) (hb : Both D m ps) (hr : RefAt D lv sv mv m ps) (hs : Sat B D w (logP b m :: l)) (q0 : (bits .and .i64 kind 7 == 0) = false) (q1 : (bits .and .i64 kind 7 == 1) = false) (q2 : (bits .and .i64 kind 7 == 2) = false) (q3 : (bits .and .i64 kind 7 == 3) = false) (q4 : (bits .and .i64 kind 7 == 4) = false) (q5 : (bits .and .i64 kind 7 == 5) = false) (q6 : (bits .and .i64 kind 7 == 6) = false) :
    Calls Try.prog 17 #[.pointer (some ⟨b, 0, none⟩), .agg #[.int .i64 m.room, lv, sv, mv], .agg #[.int .i64 kind, .int .i64 n, .int .i64 e.t, .bool e.k.t, .int .i64 e.k.n, .string e.k.s, e.was]] w (DonePost B D l b M) := by
  obtain ⟨lo, lc, so, sc, mo, mc, rfl, rfl, rfl⟩ := hr.shapes
  obtain ⟨et, ek, ew⟩ := e
  have hew := ha.2.2.oneV
  have h0 := ((hs.alloc #[.int .i64 m.room, .slice lo ps.length lc, .slice so 4 sc, .slice mo m.met.length mc] tRef).alloc #[.int .i64 kind, .int .i64 n, .int .i64 et, .bool ek.t, .int .i64 ek.n, .string ek.s, ew] tAct).alloc #[.int .i64 0, .slice none 0 0, .slice none 0 0, .slice none 0 0] tRef
  simp only [World.size_alloc] at h0
  have hlen := hb.es.1
  have h60 : m.es.length ≤ 60 := by have := hb.le; have := hb.r60; omega
  have hr60 := hb.r60
  have HS := Lib.hid h0
  have HA := Lib.hid ha
  have HWF := Lib.hid hwf
  have HWA := Lib.hid hwa
  have HB := Lib.hid hb
  have HR := Lib.hid hr
  have HONE := Lib.hid (show ∀ u ∈ a.2.flatMap Val.cells, u.oneCell' = true from fun u hu => by
    obtain ⟨x, _, hx⟩ := List.mem_flatMap.1 hu
    exact Val.one x u hx)
  have HLEN := Lib.hid hlen
  have hl1 : ps.length ≤ m.es.length := by omega
  have hl2 : m.es.length ≤ ps.length := by omega
  clear h0 ha hwf hwa hb hr hs hlen
  go_enter Try.func17, Try.ntmps17
  go_upto_region 1 with (fail)
  obtain ⟨W, hW, hsW⟩ := HS.out.hide
  rw [← hW]
  clear HS hW
  generalize w.heap.size + 1 + 1 = b2 at hsW ⊢
  generalize w.heap.size + 1 = b1 at hsW ⊢
  generalize w.heap.size = b0 at hsW ⊢
  have hsL := hsW.front 3 rfl
  simp only [List.eraseIdx_cons_succ, List.eraseIdx_cons_zero] at hsL
  obtain ⟨c0, c1, c2, c3, cf⟩ := cells4 (hsW.blk 2 rfl)
  obtain ⟨d0, d1, d2, d3, d4, d5, d6, df⟩ := cells7 (hsW.blk 1 rfl)
  have HW := Lib.hid hsL
  clear hsW hsL
  go_upto_region 2 with (fail)
  generalize bits .and .i64 kind 7 = q at *
  go_upto_region 19 with (go_at_call 15; refine (all_p h60 HW.out).mono ?_; rintro e1 w1 ⟨v1, D1, rfl, g1, r1, hs1⟩; obtain ⟨a1, k1, rfl⟩ := r1.shape; have HS1 := Lib.hid hs1; have HG1 := Lib.hid g1; have HR1 := Lib.hid r1; clear hs1 g1 r1)
  clear c0 c1 c2 c3 cf d0 d1 d2 d3 d4 d5 d6 df
  obtain ⟨c0, c1, c2, c3, cf⟩ := cells4 (HS1.out.blk 3 rfl)
  obtain ⟨d0, d1, d2, d3, d4, d5, d6, df⟩ := cells7 (HS1.out.blk 2 rfl)
  go_upto_region 20 with (go_at_call 25; refine (allR_ok (by omega) (HR.out.mono HG1.out) HS1.out).mono ?_; rintro e2 w2 ⟨cs2, v2, rfl, D2, g2, ⟨n1, n2, n3, rfl, r2⟩, t2, hs2⟩; obtain ⟨p1, x1, p2, p3, p4, p5, x2, p6, rfl, rfl, rfl⟩ := r2.shape6; have HS2 := Lib.hid hs2; have HG2 := Lib.hid g2; have HR2 := Lib.hid r2; have HT2 := Lib.hid t2; clear hs2 g2 r2 t2)
  go_upto_region 20 with (fail)
  have hs3 := HS2.out.alloc #[.int .i64 (clampI m.room), .slice p1 x1 p2, .slice p3 4 p4, .slice p5 x2 p6] tRef
  obtain ⟨W3, hW3, hs3⟩ := hs3.hide
  rw [← hW3]
  generalize w2.heap.size = b9 at hs3 ⊢
  clear hW3 c0 c1 c2 c3 cf d0 d1 d2 d3 d4 d5 d6 df HS2
  obtain ⟨c0, c1, c2, c3, cf⟩ := cells4 (hs3.blk 0 rfl)
  obtain ⟨z0, z1, z2, z3, zf⟩ := cells4 (hs3.blk 2 rfl)
  have HS3 := Lib.hid hs3
  clear hs3
  have HS4 := Lib.hid HS3.out.drew
  have HT1 := Lib.hid (show EntsP D2 (.slice a1 m.es.length k1) ps.reverse from ⟨m.es.reverse, by rw [List.length_reverse]; exact HR1.out.mono HG2.out, (HB.out.es.mono (HG1.out.trans HG2.out)).reverse⟩)
  have HWF1 := Lib.hid (show ∀ a ∈ ps.reverse, ∀ x ∈ a.2, x.wf from fun a ha => HB.out.wf a (List.mem_reverse.1 ha))
  refine wp_region_canon [(0, false, 4), (1, false, 3), (2, false, 3), (3, true, 0), (4, true, 0), (5, false, 999)] (by kernel_rfl) (by kernel_rfl) ?_
  iterate 3 (refine wpCan_read rfl rfl (fun K hK => ?_); go_simp; refine hK _ ?_; clear hK K)
  refine wpCan_eff rfl ?_
  refine wpList_do rfl (fun K hK => ?_)
  go_simp
  refine (sameE_ok HT1.out HT2.out HWF1.out HWF1.out HS4.out).mono ?_
  rintro e5 w5 ⟨rfl, hs5⟩
  clear c0 c1 c2 c3 cf z0 z1 z2 z3 zf
  obtain ⟨c0, c1, c2, c3, cf⟩ := cells4 (hs5.blk 0 rfl)
  obtain ⟨z0, z1, z2, z3, zf⟩ := cells4 (hs5.blk 2 rfl)
  have HS5 := Lib.hid hs5
  clear hs5
  simp only [decide_true]
  refine hK _ _ ?_
  clear hK K
  refine wpList_nil ?_
  refine And.intro ?_ ?_
  · go_simp
  refine wpCan_eff rfl ?_
  refine wpList_plain rfl (fun K hK => ?_)
  go_simp
  refine hK _ _ ?_
  clear hK K
  refine wpList_nil ?_
  refine And.intro ?_ ?_
  · go_simp
  iterate 1 (refine wpCan_read rfl rfl (fun K hK => ?_); go_simp; refine hK _ ?_; clear hK K)
  refine wpCan_nil ?_
  go_wp2_with (fail)
  refine bodyPost_ret (v := .tuple #[.agg #[.int .i64 (clampI m.room), .slice p1 x1 p2, .slice p3 4 p4, .slice p5 x2 p6], .bool true]) (by simp [results, Try.results17, go_sem, z0, z1, z2, z3, zf]) rfl ⟨newM m.room, [], D2, _, _, _, rfl, HG1.out.trans HG2.out, HR2.out, Both.fresh, by simp [newM], ?_⟩
  exact (HS5.out.modify 2 rfl (fun _ h => h.set4 _ _ _ _)).four

theorem done_ok {B w : World} {D : PH} {l : List HP} {b : Nat} {lv sv mv : Value} {m : LogM} {ps : List EA} {M : Nat} (kind n : Int) (e : Ent) (a : EA) (ha : EntA D e a) (hwf : e.spot.wf) (hwa : ∀ x ∈ a.2, x.wf) (h100 : a.2.length ≤ 100)
    (hM : m.met.length ≤ M) (hM' : M ≤ 900) (hb : Both D m ps) (hr : RefAt D lv sv mv m ps) (hs : Sat B D w (logP b m :: l)) :
    Calls Try.prog 17 #[.pointer (some ⟨b, 0, none⟩), .agg #[.int .i64 m.room, lv, sv, mv], .agg #[.int .i64 kind, .int .i64 n, .int .i64 e.t, .bool e.k.t, .int .i64 e.k.n, .string e.k.s, e.was]] w (DonePost B D l b M) := by
  by_cases h1 : bits .and .i64 kind 7 = 0 ∨ bits .and .i64 kind 7 = 1 ∨ bits .and .i64 kind 7 = 2 ∨ bits .and .i64 kind 7 = 3
  · exact done_push kind n e a ha hwf hwa h100 hM hM' hb hr hs h1
  · by_cases h2 : bits .and .i64 kind 7 = 4
    · exact done_save kind n e a ha hwf hwa h100 hM hM' hb hr hs h2
    · by_cases h3 : bits .and .i64 kind 7 = 5 ∨ bits .and .i64 kind 7 = 6
      · exact done_back kind n e a ha hwf hwa h100 hM hM' hb hr hs h3
      · refine done_all kind n e a ha hwf hwa h100 hM hM' hb hr hs ?_ ?_ ?_ ?_ ?_ ?_ ?_
        all_goals
          simp only [beq_eq_false_iff_ne, ne_eq]
          omega
end Go.Proofs.Ytokcpmeoiblpfaa
