/- ratlinelaw07.UndoPlays: the walk. -/
import Derived.Test.YtokcpmeoiblpfaaUndoDone
import Derived.Test.YtokcpmeoiblpfaaUndo11
namespace Go.Proofs.Ytokcpmeoiblpfaa
open Go.ChangeShapes Go.WideShapes Go.ChangeAt Go.RowKit Go.Deep
set_option maxRecDepth 100000
set_option linter.unusedSimpArgs false

/-- ratlinelaw07.Act -/
structure ActM where
  kind : Int
  n : Int
  e : Ent
def ActM.cells (a : ActM) : List Value := .int .i64 a.kind :: .int .i64 a.n :: a.e.cells
theorem ActM.len (a : ActM) : a.cells.length = 7 := rfl
instance : Inhabited ActM := ⟨⟨0, 0, default⟩⟩
def ActsRd (w : World) (xs : List (ActM × List Val)) : Prop := ∀ p ∈ xs, p.1.e.spot.wf ∧ RowRd w p.1.e.was p.2
theorem cellsAct : Try.prog.cellsOf 48 = 7 := by kernel_rfl

section
variable {H : Type} {enc : TypeId × Value → H} {w : World} {base : Nat} {spare : Nat → Bool} {held : Bool}
theorem open_act {fuel : Nat} {cs : List Value} {x : DataW H × List MemPlace} (hsp : ∀ b, spare b = true) (h : DataW.trod enc Try.prog w base spare held fuel 48 cs = some x) :
    ∃ (a : ActM) (l : List Val), cs = a.cells ∧ a.e.spot.wf ∧ RowRd w a.e.was l := by
  obtain ⟨y0, y1, y2, n, rfl, hl, t0, t1, t2⟩ := trod_struct3 Try.underlying48 h
  rw [cellsAct] at hl
  simp only [cellsInt, cellsEnt] at t0 t1 t2
  match cs, hl with
  | [c0, c1, c2, c3, c4, c5, c6], _ =>
    simp only [List.drop, List.take] at t0 t1 t2
    obtain ⟨z0, hz0, _, _⟩ := DataW.trod_int Try.underlying3 t0
    obtain ⟨z1, hz1, _, _⟩ := DataW.trod_int Try.underlying3 t1
    obtain ⟨e, l, he, h1, h2, _⟩ := open_ent hsp t2
    simp only [List.cons.injEq, and_true] at hz0 hz1
    subst hz0 hz1
    exact ⟨⟨z0, z1, e⟩, l, by show _ = _ :: _ :: e.cells; rw [← he], h1, h2⟩
theorem open_acts {fuel : Nat} {cs : List Value} {x : DataW H × List MemPlace} (hsp : ∀ b, spare b = true) (h : DataW.trod enc Try.prog w base spare held fuel 42 cs = some x) :
    ∃ (v : Value) (xs : List (ActM × List Val)), cs = [v] ∧ Rd w 7 v xs.length (xs.flatMap (fun p => p.1.cells)) ∧ ActsRd w xs := by
  obtain ⟨v, l, rfl, hrd, hx⟩ := open_Rd (α := ActM × List Val) (f := fun p => p.1.cells) (G := fun p _ => p.1.e.spot.wf ∧ RowRd w p.1.e.was p.2)
    Try.underlying42 cellsAct (by omega) (fun p => ActM.len p.1) (fun _ _ _ _ hd => by
      obtain ⟨e, l, rfl, h1, h2⟩ := open_act hsp hd
      exact ⟨(e, l), rfl, h1, h2⟩) hsp h
  refine ⟨v, l, rfl, hrd, fun p hp => ?_⟩
  obtain ⟨i, hi⟩ := List.getElem?_of_mem hp
  rcases hx with ⟨_, rfl⟩ | ⟨ds, sp, _, _, h2⟩
  · cases hp
  · obtain ⟨d, _, hg⟩ := h2 i p hi
    exact hg
end

theorem act_cells {w : World} {g og N cap k : Nat} {xs : List (ActM × List Val)} {x : ActM × List Val} (h : Rd w 7 (.slice (some ⟨g, og, none⟩) N cap) N (xs.flatMap (fun p => p.1.cells))) (hx : xs[k]? = some x) :
    w.cell? ⟨g, og + k * 7, none⟩ = some (.int .i64 x.1.kind) ∧ w.cell? ⟨g, og + k * 7 + 1, none⟩ = some (.int .i64 x.1.n) ∧ w.cell? ⟨g, og + k * 7 + 2, none⟩ = some (.int .i64 x.1.e.t) ∧ w.cell? ⟨g, og + k * 7 + 3, none⟩ = some (.bool x.1.e.k.t) ∧
      w.cell? ⟨g, og + k * 7 + 4, none⟩ = some (.int .i64 x.1.e.k.n) ∧ w.cell? ⟨g, og + k * 7 + 5, none⟩ = some (.string x.1.e.k.s) ∧ w.cell? ⟨g, og + k * 7 + 6, none⟩ = some x.1.e.was := by
  have hlt := (List.getElem?_eq_some_iff.1 hx).1
  rcases h.2.2 with ⟨_, _, hv, _, _, _, hcell⟩
  cases hv
  rcases hcell with h0 | ⟨_, _, hg, hc⟩
  · have := h.1
    rw [flat_len (f := fun p : ActM × List Val => p.1.cells) (size := 7) (fun p => ActM.len p.1)] at this
    omega
  cases hg
  have f := fun j u hj => hc _ _ (flat_get (fun p => ActM.len p.1) xs k _ hx j u hj)
  have a0 := f 0 _ rfl
  have a1 := f 1 _ rfl
  have a2 := f 2 _ rfl
  have a3 := f 3 _ rfl
  have a4 := f 4 _ rfl
  have a5 := f 5 _ rfl
  have a6 := f 6 _ rfl
  rw [Nat.add_zero] at a0
  rw [← Nat.add_assoc] at a1 a2 a3 a4 a5 a6
  exact ⟨a0, a1, a2, a3, a4, a5, a6⟩
theorem touched_ents (D : PH) (met : List Spot) : EntsA D (met.map Spot.ent) (met.map (fun p => (p, []))) := by
  refine ⟨by simp, fun i e a h1 h2 => ?_⟩
  rw [List.getElem?_map] at h1 h2
  cases hm : met[i]? with
  | none => rw [hm] at h1; cases h1
  | some p =>
    rw [hm] at h1 h2
    cases h1
    cases h2
    exact ⟨rfl, rfl, RdP.nil _ _⟩

set_option maxHeartbeats 8000000 in
theorem plays_ok {w : World} (room : Int) {ao : Option Addr} {n cap : Nat} {xs : List (ActM × List Val)} (hrd : Rd w 7 (.slice ao n cap) xs.length (xs.flatMap (fun p => p.1.cells))) (hxs : ActsRd w xs) :
    Calls Try.prog 6 #[.int .i64 room, .slice ao n cap] w fun e' w' => e' = .returned (.bool true) ∧ Kept (fun _ => False) w w' := by
  have hR := RdP.of_rd hrd (by omega)
  have hml := hR.len
  obtain ⟨_, _, hv⟩ := hrd.2.2
  cases hv.1
  have HXS := Lib.hid hxs
  have HRD := Lib.hid hR
  clear hrd hxs hR hv
  generalize hN : xs.length = N at *
  go_enter Try.func6, Try.ntmps6
  go_wp2_with fail
  refine (awake_ok w).mono ?_
  rintro e1 w1 ⟨rfl, h1⟩
  have HS1 := Lib.hid ((Sat.start w).kept h1)
  clear h1
  go_wp2_with fail
  refine (new_p room HS1.out).mono ?_
  rintro e2 w2 ⟨b, rfl, hs2⟩
  have HS2 := Lib.hid hs2
  clear hs2 HS1
  go_wp2_with fail
  refine (newR_ok room HS2.out).mono ?_
  rintro e3 w3 ⟨cs3, rfl, n1, n2, n3, D3, rfl, g3, r3, hs3⟩
  obtain ⟨p1, x1, p2, p3, p4, p5, x2, p6, rfl, rfl, rfl⟩ := r3.shape6
  have HS3 := Lib.hid hs3
  have HR3 := Lib.hid r3
  have HG3 := Lib.hid g3
  clear hs3 r3 g3 HS2
  go_upto_region 6 with (fail)
  have hs4 := HS3.out.alloc #[.int .i64 (clampI room), .slice p1 x1 p2, .slice p3 4 p4, .slice p5 x2 p6] tRef
  obtain ⟨W4, hW4, hs4⟩ := hs4.hide
  rw [← hW4]
  generalize w3.heap.size = b7 at hs4 ⊢
  have HS4 := Lib.hid hs4
  clear hs4 hW4 HS3
  go_wp2_with (fail)
  go_loopw [8] (fun i wr => ∃ (k : Nat) (m : LogM) (ps : List EA) (D : PH) (lv sv mv : Value), i = .int .i64 k ∧ k ≤ N ∧ k ≤ 80 ∧ Sat w D wr (blk b7 #[.int .i64 m.room, lv, sv, mv] tRef :: logP b m :: []) ∧ PH.le (heapOf w) D ∧ RefAt D lv sv mv m ps ∧ Both D m ps ∧ m.met.length ≤ k) (fun i _ => N - (intOf i).toNat)
  case atStart => exact ⟨0, newM room, [], D3, _, _, _, rfl, by omega, by omega, HS4.out, HG3.out, HR3.out, Both.fresh, by simp [newM]⟩
  case round =>
    obtain ⟨k, m, ps, D, lv, sv, mv, rfl, hk, hk80, hsat, hle, href, hboth, hmet⟩ := hrel
    obtain ⟨q1, y1, q2, q3, q4, q5, y2, q6, rfl, rfl, rfl⟩ := href.shape6
    clear HS4
    have HSAT := Lib.hid hsat
    have HLE := Lib.hid hle
    have HREF := Lib.hid href
    have HB := Lib.hid hboth
    obtain ⟨c0, c1, c2, c3, cf⟩ := cells4 (hsat.blk 0 rfl)
    clear hle href hboth
    by_cases hlt : k < N
    · by_cases h80 : k < 80
      · obtain ⟨x, hx⟩ : ∃ x, xs[k]? = some x := ⟨xs[k]'(by omega), List.getElem?_eq_getElem (by omega)⟩
        obtain ⟨⟨kind, an, ⟨et, ek, ew⟩⟩, vs⟩ := x
        obtain ⟨hwf, hrow⟩ := HXS.out _ (List.mem_of_getElem? hx)
        have ha : EntA D ⟨et, ek, ew⟩ (⟨et, ek⟩, vs) := ⟨rfl, rfl, (RdP.of_rd hrow.1 (by omega)).mono HLE.out⟩
        have hrd := (HRD.out.mono HLE.out).rd hsat
        obtain ⟨g, og, rfl⟩ : ∃ g og, ao = some ⟨g, og, none⟩ := by
          rcases hrd.2.2 with ⟨_, _, hv, _, _, _, hcell⟩
          cases hv
          rcases hcell with h0 | ⟨g, og, h, _⟩
          · omega
          · exact ⟨g, og, h⟩
        obtain ⟨a0, a1, a2, a3, a4, a5, a6⟩ := act_cells hrd hx
        dsimp only at a0 a1 a2 a3 a4 a5 a6
        obtain ⟨wo, wc, hew⟩ := ha.2.2.shape
        dsimp only at hew
        subst hew
        have HA := Lib.hid ha
        have HWF := Lib.hid hwf
        have HWA := Lib.hid hrow.2
        have HX := Lib.hid hx
        clear ha hwf hrow hx hrd hsat
        generalize hV : vs.length = V at *
        by_cases h100 : (100 : Int) < V
        · go_wp2_with (fail)
          go_ret
          exact ⟨rfl, HSAT.out.end_ HLE.out⟩
        · go_upto_region 11 with (fail)
          have HT := Lib.hid HSAT.out.drew
          have HRM := Lib.hid HRD.out
          refine wp_region_tr (.rd 0 6 (.rd 1 6 (.rd 2 6 (.rd 3 6 (.rd 4 6 (.rd 5 6 (.ef 6 (.rd 7 11 (.rd 8 11 (.rd 9 999 (.ef 10 (.ef 11 (.rd 12 999 .nil) .nil) .nil)))) (.ef 10 (.ef 6 (.rd 7 11 (.rd 8 11 (.rd 9 999 (.ef 11 (.rd 12 999 .nil) .nil)))) .nil) .nil)))))))) [6, 10, 11] (by kernel_rfl) (by kernel_rfl) ?_
          iterate 6 (refine wpTr_read rfl rfl (fun K hK => ?_); go_simp; refine hK _ ?_; clear hK K)
          refine wpTr_two rfl rfl ?_ ?_
          · skip
            refine wpList_do rfl (fun K hK => ?_)
            go_simp
            refine (done_ok kind an ⟨et, ek, .slice wo V wc⟩ (⟨et, ek⟩, vs) HA.out HWF.out HWA.out (by show vs.length ≤ 100; omega) hmet (by omega) HB.out HREF.out HT.out.swap).mono ?_
            rintro e5 w5 ⟨m5, ps5, D5, lv5, sv5, mv5, rfl, g5, r5, hb5, hm5, hs5⟩
            obtain ⟨p1, p2, p3, p4, p5, p6, rfl, rfl, rfl⟩ := r5.shapes
            have HS5 := Lib.hid hs5
            have HG5 := Lib.hid g5
            have HR5 := Lib.hid r5
            have HB5 := Lib.hid hb5
            clear hs5 g5 r5 hb5 HT c0 c1 c2 c3 cf a0 a1 a2 a3 a4 a5 a6
            refine hK _ _ ?_
            clear hK K
            refine wpList_nil ?_
            refine And.intro ?_ ?_
            · go_simp
            iterate 3 (refine wpTr_read rfl rfl (fun K hK => ?_); go_simp; refine hK _ ?_; clear hK K)
            refine wpTr_eff rfl ?_
            refine wpList_plain rfl (fun K hK => ?_)
            go_simp
            refine hK _ _ ?_
            clear hK K
            refine wpList_nil ?_
            refine And.intro ?_ ?_
            · go_simp
            refine wpTr_eff rfl ?_
            refine wpList_plain rfl (fun K hK => ?_)
            go_simp
            refine hK _ _ ?_
            clear hK K
            refine wpList_nil ?_
            refine And.intro ?_ ?_
            · go_simp
            iterate 1 (refine wpTr_read rfl rfl (fun K hK => ?_); go_simp; refine hK _ ?_; clear hK K)
            refine wpTr_nil ?_
            have hs6 := HS5.out.alloc #[.int .i64 m5.room, .slice p1 ps5.length p2, .slice p3 4 p4, .slice p5 m5.met.length p6] tRef
            obtain ⟨W6, hW6, hs6⟩ := hs6.hide
            rw [← hW6]
            generalize w5.heap.size = b9 at hs6 ⊢
            have HS6 := Lib.hid hs6.swap
            clear hs6 hW6 HS5
            obtain ⟨c0, c1, c2, c3, cf⟩ := cells4 (HS6.out.blk 2 rfl)
            obtain ⟨z0, z1, z2, z3, zf⟩ := cells4 (HS6.out.blk 1 rfl)
            go_upto_region 13 with (fail)
            have hs7 := HS6.out.modify 2 rfl (fun _ h => h.set4 (.int .i64 m5.room) (.slice p1 ps5.length p2) (.slice p3 4 p4) (.slice p5 m5.met.length p6))
            simp only [List.set_cons_succ, List.set_cons_zero] at hs7
            obtain ⟨W7, hW7, hs7⟩ := hs7.hide
            rw [← hW7]
            have HS7 := Lib.hid hs7.drew
            clear hW7 HS6 c0 c1 c2 c3 cf z0 z1 z2 z3 zf
            obtain ⟨c0, c1, c2, c3, cf⟩ := cells4 (hs7.blk 2 rfl)
            clear hs7
            have hlen5 := HB5.out.es.1
            have hne5 : ((m5.es.length : Int) != (ps5.length : Int)) = false := by rw [hlen5]; simp
            clear hlen5
            have hes5 : m5.met.length ≤ 1000 := by omega
            refine wp_region_canon [(0, false, 4), (1, false, 4), (2, false, 4), (3, false, 4), (5, false, 12), (6, false, 12), (7, false, 12), (4, true, 0), (8, false, 12), (9, false, 12), (10, false, 12), (11, false, 12), (13, false, 15), (14, false, 15), (12, true, 0), (15, true, 0), (16, false, 999), (17, false, 999)] (by kernel_rfl) (by kernel_rfl) ?_
            iterate 3 (refine wpCan_read rfl rfl (fun K hK => ?_); go_simp; refine hK _ ?_; clear hK K)
            first | (refine wpCan_no rfl rfl ?_; simp only [Act.put, List.setIfInBounds_toArray, List.set_cons_succ, List.set_cons_zero]) | (refine wpCan_yes rfl rfl (fun K hK => ?_); go_simp; refine hK _ ?_; clear hK K)
            first | (refine wpCan_no rfl rfl ?_; simp only [Act.put, List.setIfInBounds_toArray, List.set_cons_succ, List.set_cons_zero]) | (refine wpCan_yes rfl rfl (fun K hK => ?_); go_simp; refine hK _ ?_; clear hK K)
            first | (refine wpCan_no rfl rfl ?_; simp only [Act.put, List.setIfInBounds_toArray, List.set_cons_succ, List.set_cons_zero]) | (refine wpCan_yes rfl rfl (fun K hK => ?_); go_simp; refine hK _ ?_; clear hK K)
            first | (refine wpCan_no rfl rfl ?_; simp only [Act.put, List.setIfInBounds_toArray, List.set_cons_succ, List.set_cons_zero]) | (refine wpCan_yes rfl rfl (fun K hK => ?_); go_simp; refine hK _ ?_; clear hK K)
            refine wpCan_eff rfl ?_
            refine wpList_do rfl (fun K hK => ?_)
            go_simp
            refine (len_p HS7.out).mono ?_
            rintro e8 w8 ⟨rfl, hs8⟩
            clear c0 c1 c2 c3 cf
            obtain ⟨c0, c1, c2, c3, cf⟩ := cells4 (hs8.blk 2 rfl)
            have HS8 := Lib.hid hs8
            clear hs8
            refine hK _ _ ?_
            clear hK K
            refine wpList_nil ?_
            refine And.intro ?_ ?_
            · go_simp
            first | (refine wpCan_no rfl rfl ?_; simp only [Act.put, List.setIfInBounds_toArray, List.set_cons_succ, List.set_cons_zero]) | (refine wpCan_yes rfl rfl (fun K hK => ?_); go_simp; refine hK _ ?_; clear hK K)
            iterate 2 (refine wpCan_read rfl rfl (fun K hK => ?_); go_simp; refine hK _ ?_; clear hK K)
            first | (refine wpCan_no rfl rfl ?_; simp only [Act.put, List.setIfInBounds_toArray, List.set_cons_succ, List.set_cons_zero]) | (refine wpCan_yes rfl rfl (fun K hK => ?_); go_simp; refine hK _ ?_; clear hK K)
            first | (refine wpCan_no rfl rfl ?_; simp only [Act.put, List.setIfInBounds_toArray, List.set_cons_succ, List.set_cons_zero]) | (refine wpCan_yes rfl rfl (fun K hK => ?_); go_simp; refine hK _ ?_; clear hK K)
            first | (refine wpCan_no rfl rfl ?_; simp only [Act.put, List.setIfInBounds_toArray, List.set_cons_succ, List.set_cons_zero]) | (refine wpCan_yes rfl rfl (fun K hK => ?_); go_simp; refine hK _ ?_; clear hK K)
            refine wpCan_eff rfl ?_
            refine wpList_do rfl (fun K hK => ?_)
            go_simp
            refine (touched_p hes5 HS8.out).mono ?_
            rintro e9 w9 ⟨v9, D9, rfl, g9, r9, hs9⟩
            obtain ⟨t1, t2, rfl⟩ := r9.shape
            clear c0 c1 c2 c3 cf
            obtain ⟨c0, c1, c2, c3, cf⟩ := cells4 (hs9.blk 2 rfl)
            have HS9 := Lib.hid hs9
            have HG9 := Lib.hid g9
            have HR9 := Lib.hid r9
            clear hs9 g9 r9
            refine hK _ _ ?_
            clear hK K
            refine wpList_nil ?_
            refine And.intro ?_ ?_
            · go_simp
            refine wpCan_eff rfl ?_
            have HP1 := Lib.hid (show EntsP D9 (.slice t1 m5.met.length t2) (m5.met.map (fun p => (p, []))) from ⟨m5.met.map Spot.ent, by rw [List.length_map]; exact HR9.out, touched_ents _ _⟩)
            have HP2 := Lib.hid (show EntsP D9 (.slice p5 m5.met.length p6) (m5.met.map (fun p => (p, []))) from ⟨m5.met.map Spot.ent, by obtain ⟨_, _, _, _, h⟩ := HR5.out; rw [List.length_map]; exact h.mono HG9.out, touched_ents _ _⟩)
            have HWN := Lib.hid (show ∀ a ∈ (m5.met.map (fun p => ((p, []) : EA))), ∀ x ∈ a.2, x.wf by intro a ha x hx; obtain ⟨p, _, rfl⟩ := List.mem_map.1 ha; cases hx)
            refine wpList_do rfl (fun K hK => ?_)
            go_simp
            refine (sameE_ok HP1.out HP2.out HWN.out HWN.out HS9.out).mono ?_
            rintro e10 w10 ⟨rfl, hs10⟩
            have HS10 := Lib.hid hs10.swap.drop.swap
            clear hs10 c0 c1 c2 c3 cf
            simp only [decide_true]
            refine hK _ _ ?_
            clear hK K
            refine wpList_nil ?_
            refine And.intro ?_ ?_
            · go_simp
            first | (refine wpCan_no rfl rfl ?_; simp only [Act.put, List.setIfInBounds_toArray, List.set_cons_succ, List.set_cons_zero]) | (refine wpCan_yes rfl rfl (fun K hK => ?_); go_simp; refine hK _ ?_; clear hK K)
            iterate 1 (refine wpCan_read rfl rfl (fun K hK => ?_); go_simp; refine hK _ ?_; clear hK K)
            refine wpCan_nil ?_
            go_wp2_with (fail)
            go_roundw
            case rel => exact ⟨k + 1, m5, ps5, D9, _, _, _, by go_num, by omega, by omega, HS10.out, (HLE.out.trans HG5.out).trans HG9.out, HR5.out.mono HG9.out, HB5.out.mono HG9.out, hm5⟩
            case measure => simp [intOf] <;> omega
          · skip
            refine wpList_plain rfl (fun K hK => ?_)
            go_simp
            refine hK _ _ ?_
            clear hK K
            refine wpList_nil ?_
            have hs5 := (HSAT.out.alloc #[.int .i64 0, .slice none 0 0, .slice none 0 0, .slice none 0 0] tRef).drew
            obtain ⟨W5, hW5, hs5⟩ := hs5.hide
            rw [← hW5]
            generalize wr.heap.size = b9 at hs5 ⊢
            clear c0 c1 c2 c3 cf a0 a1 a2 a3 a4 a5 a6 hW5 HT
            obtain ⟨c0, c1, c2, c3, cf⟩ := cells4 (hs5.blk 1 rfl)
            obtain ⟨a0, a1, a2, a3, a4, a5, a6⟩ := act_cells ((HRM.out.mono HLE.out).rd hs5) HX.out
            dsimp only at a0 a1 a2 a3 a4 a5 a6
            have ht := hs5.front 2 rfl
            simp only [List.eraseIdx_cons_succ, List.eraseIdx_cons_zero] at ht
            have HT := Lib.hid ht
            clear ht hs5
            refine And.intro ?_ ?_
            · go_simp
            refine wpTr_eff rfl ?_
            refine wpList_do rfl (fun K hK => ?_)
            go_simp
            refine (done_ok kind an ⟨et, ek, .slice wo V wc⟩ (⟨et, ek⟩, vs) HA.out HWF.out HWA.out (by show vs.length ≤ 100; omega) hmet (by omega) HB.out HREF.out HT.out).mono ?_
            rintro e5 w5 ⟨m5, ps5, D5, lv5, sv5, mv5, rfl, g5, r5, hb5, hm5, hs5⟩
            obtain ⟨p1, p2, p3, p4, p5, p6, rfl, rfl, rfl⟩ := r5.shapes
            have HS5 := Lib.hid hs5
            have HG5 := Lib.hid g5
            have HR5 := Lib.hid r5
            have HB5 := Lib.hid hb5
            clear hs5 g5 r5 hb5 HT c0 c1 c2 c3 cf a0 a1 a2 a3 a4 a5 a6
            obtain ⟨z0, z1, z2, z3, zf⟩ := cells4 (HS5.out.blk 1 rfl)
            refine hK _ _ ?_
            clear hK K
            refine wpList_nil ?_
            refine And.intro ?_ ?_
            · go_simp
            iterate 3 (refine wpTr_read rfl rfl (fun K hK => ?_); go_simp; refine hK _ ?_; clear hK K)
            refine wpTr_eff rfl ?_
            refine wpList_plain rfl (fun K hK => ?_)
            go_simp
            refine hK _ _ ?_
            clear hK K
            refine wpList_nil ?_
            refine And.intro ?_ ?_
            · go_simp
            iterate 1 (refine wpTr_read rfl rfl (fun K hK => ?_); go_simp; refine hK _ ?_; clear hK K)
            refine wpTr_nil ?_
            have hs6 := HS5.out.modify 1 rfl (fun _ h => h.set4 (.int .i64 m5.room) (.slice p1 ps5.length p2) (.slice p3 4 p4) (.slice p5 m5.met.length p6))
            simp only [List.set_cons_succ, List.set_cons_zero] at hs6
            obtain ⟨W6, hW6, hs6⟩ := hs6.hide
            rw [← hW6]
            have HS6 := Lib.hid hs6
            clear hs6 hW6 HS5 z0 z1 z2 z3 zf
            obtain ⟨c0, c1, c2, c3, cf⟩ := cells4 (HS6.out.blk 2 rfl)
            obtain ⟨z0, z1, z2, z3, zf⟩ := cells4 (HS6.out.blk 1 rfl)
            go_upto_region 13 with (fail)
            have hs7 := HS6.out.modify 2 rfl (fun _ h => h.set4 (.int .i64 m5.room) (.slice p1 ps5.length p2) (.slice p3 4 p4) (.slice p5 m5.met.length p6))
            simp only [List.set_cons_succ, List.set_cons_zero] at hs7
            obtain ⟨W7, hW7, hs7⟩ := hs7.hide
            rw [← hW7]
            have HS7 := Lib.hid hs7.drew
            clear hW7 HS6 c0 c1 c2 c3 cf z0 z1 z2 z3 zf
            obtain ⟨c0, c1, c2, c3, cf⟩ := cells4 (hs7.blk 2 rfl)
            clear hs7
            have hlen5 := HB5.out.es.1
            have hne5 : ((m5.es.length : Int) != (ps5.length : Int)) = false := by rw [hlen5]; simp
            clear hlen5
            have hes5 : m5.met.length ≤ 1000 := by omega
            refine wp_region_canon [(0, false, 4), (1, false, 4), (2, false, 4), (3, false, 4), (5, false, 12), (6, false, 12), (7, false, 12), (4, true, 0), (8, false, 12), (9, false, 12), (10, false, 12), (11, false, 12), (13, false, 15), (14, false, 15), (12, true, 0), (15, true, 0), (16, false, 999), (17, false, 999)] (by kernel_rfl) (by kernel_rfl) ?_
            iterate 3 (refine wpCan_read rfl rfl (fun K hK => ?_); go_simp; refine hK _ ?_; clear hK K)
            first | (refine wpCan_no rfl rfl ?_; simp only [Act.put, List.setIfInBounds_toArray, List.set_cons_succ, List.set_cons_zero]) | (refine wpCan_yes rfl rfl (fun K hK => ?_); go_simp; refine hK _ ?_; clear hK K)
            first | (refine wpCan_no rfl rfl ?_; simp only [Act.put, List.setIfInBounds_toArray, List.set_cons_succ, List.set_cons_zero]) | (refine wpCan_yes rfl rfl (fun K hK => ?_); go_simp; refine hK _ ?_; clear hK K)
            first | (refine wpCan_no rfl rfl ?_; simp only [Act.put, List.setIfInBounds_toArray, List.set_cons_succ, List.set_cons_zero]) | (refine wpCan_yes rfl rfl (fun K hK => ?_); go_simp; refine hK _ ?_; clear hK K)
            first | (refine wpCan_no rfl rfl ?_; simp only [Act.put, List.setIfInBounds_toArray, List.set_cons_succ, List.set_cons_zero]) | (refine wpCan_yes rfl rfl (fun K hK => ?_); go_simp; refine hK _ ?_; clear hK K)
            refine wpCan_eff rfl ?_
            refine wpList_do rfl (fun K hK => ?_)
            go_simp
            refine (len_p HS7.out).mono ?_
            rintro e8 w8 ⟨rfl, hs8⟩
            clear c0 c1 c2 c3 cf
            obtain ⟨c0, c1, c2, c3, cf⟩ := cells4 (hs8.blk 2 rfl)
            have HS8 := Lib.hid hs8
            clear hs8
            refine hK _ _ ?_
            clear hK K
            refine wpList_nil ?_
            refine And.intro ?_ ?_
            · go_simp
            first | (refine wpCan_no rfl rfl ?_; simp only [Act.put, List.setIfInBounds_toArray, List.set_cons_succ, List.set_cons_zero]) | (refine wpCan_yes rfl rfl (fun K hK => ?_); go_simp; refine hK _ ?_; clear hK K)
            iterate 2 (refine wpCan_read rfl rfl (fun K hK => ?_); go_simp; refine hK _ ?_; clear hK K)
            first | (refine wpCan_no rfl rfl ?_; simp only [Act.put, List.setIfInBounds_toArray, List.set_cons_succ, List.set_cons_zero]) | (refine wpCan_yes rfl rfl (fun K hK => ?_); go_simp; refine hK _ ?_; clear hK K)
            first | (refine wpCan_no rfl rfl ?_; simp only [Act.put, List.setIfInBounds_toArray, List.set_cons_succ, List.set_cons_zero]) | (refine wpCan_yes rfl rfl (fun K hK => ?_); go_simp; refine hK _ ?_; clear hK K)
            first | (refine wpCan_no rfl rfl ?_; simp only [Act.put, List.setIfInBounds_toArray, List.set_cons_succ, List.set_cons_zero]) | (refine wpCan_yes rfl rfl (fun K hK => ?_); go_simp; refine hK _ ?_; clear hK K)
            refine wpCan_eff rfl ?_
            refine wpList_do rfl (fun K hK => ?_)
            go_simp
            refine (touched_p hes5 HS8.out).mono ?_
            rintro e9 w9 ⟨v9, D9, rfl, g9, r9, hs9⟩
            obtain ⟨t1, t2, rfl⟩ := r9.shape
            clear c0 c1 c2 c3 cf
            obtain ⟨c0, c1, c2, c3, cf⟩ := cells4 (hs9.blk 2 rfl)
            have HS9 := Lib.hid hs9
            have HG9 := Lib.hid g9
            have HR9 := Lib.hid r9
            clear hs9 g9 r9
            refine hK _ _ ?_
            clear hK K
            refine wpList_nil ?_
            refine And.intro ?_ ?_
            · go_simp
            refine wpCan_eff rfl ?_
            have HP1 := Lib.hid (show EntsP D9 (.slice t1 m5.met.length t2) (m5.met.map (fun p => (p, []))) from ⟨m5.met.map Spot.ent, by rw [List.length_map]; exact HR9.out, touched_ents _ _⟩)
            have HP2 := Lib.hid (show EntsP D9 (.slice p5 m5.met.length p6) (m5.met.map (fun p => (p, []))) from ⟨m5.met.map Spot.ent, by obtain ⟨_, _, _, _, h⟩ := HR5.out; rw [List.length_map]; exact h.mono HG9.out, touched_ents _ _⟩)
            have HWN := Lib.hid (show ∀ a ∈ (m5.met.map (fun p => ((p, []) : EA))), ∀ x ∈ a.2, x.wf by intro a ha x hx; obtain ⟨p, _, rfl⟩ := List.mem_map.1 ha; cases hx)
            refine wpList_do rfl (fun K hK => ?_)
            go_simp
            refine (sameE_ok HP1.out HP2.out HWN.out HWN.out HS9.out).mono ?_
            rintro e10 w10 ⟨rfl, hs10⟩
            have HS10 := Lib.hid hs10.swap.drop.swap
            clear hs10 c0 c1 c2 c3 cf
            simp only [decide_true]
            refine hK _ _ ?_
            clear hK K
            refine wpList_nil ?_
            refine And.intro ?_ ?_
            · go_simp
            first | (refine wpCan_no rfl rfl ?_; simp only [Act.put, List.setIfInBounds_toArray, List.set_cons_succ, List.set_cons_zero]) | (refine wpCan_yes rfl rfl (fun K hK => ?_); go_simp; refine hK _ ?_; clear hK K)
            iterate 1 (refine wpCan_read rfl rfl (fun K hK => ?_); go_simp; refine hK _ ?_; clear hK K)
            refine wpCan_nil ?_
            go_wp2_with (fail)
            go_roundw
            case rel => exact ⟨k + 1, m5, ps5, D9, _, _, _, by go_num, by omega, by omega, HS10.out, (HLE.out.trans HG5.out).trans HG9.out, HR5.out.mono HG9.out, HB5.out.mono HG9.out, hm5⟩
            case measure => simp [intOf] <;> omega
      · go_wp2_with (fail)
        go_ret
        exact ⟨rfl, HSAT.out.end_ HLE.out⟩
    · go_wp2_with (fail)
      go_ret
      exact ⟨rfl, HSAT.out.end_ HLE.out⟩
end Go.Proofs.Ytokcpmeoiblpfaa
