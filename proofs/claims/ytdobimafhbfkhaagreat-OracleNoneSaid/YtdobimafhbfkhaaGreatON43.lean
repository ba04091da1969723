/- Whether a statement may be (oracle.Check). -/
import Derived.Test.YtdobimafhbfkhaaGreatON38
import Derived.Test.YtdobimafhbfkhaaGreatON40
import Derived.Test.YtdobimafhbfkhaaGreatON42
import Derived.Deep.DeepCutAuto
set_option maxHeartbeats 64000000
namespace Go.Proofs.YtdobimafhbfkhaaGreat
open Go.ChangeShapes Go.WideShapes Go.ChangeAt Go.RowKit
set_option maxRecDepth 100000
set_option linter.unusedSimpArgs false
def okK (kind : Int) (key holds sets cursor save fits small : Bool) : Bool :=
 if kind = 4 ∨ kind = 5 then save else
 if kind = 6 ∨ kind = 9 then key else
 if kind = 7 then fits else
 if kind = 8 then key && sets else
 if kind = 10 ∨ kind = 12 then holds else
 if kind = 11 then holds && sets else
 if kind = 13 then holds && cursor && small else
 if 14 ≤ kind ∧ kind ≤ 17 then cursor else false
def iC (s : StmM) : Bool := decide (1 ≤ s.cursor) && decide (s.cursor ≤ 2)
def bZ (s : StmM) : Bool := decide (1 ≤ s.save) && decide (s.save ≤ 3)
theorem oV {cols : List (List Bool)} {s : StmM} (h : (decide (0 ≤ s.table) && decide (s.table < (cols.length : Int)) && cH (cols.getD s.table.toNat [])) = false) : okS cols s = okK s.kind false false false (iC s) (bZ s) false false := by
 unfold okS okK iC bZ
 simp only [h, Bool.false_and]
theorem pK {cols : List (List Bool)} {s : StmM} {i : Nat} {c : List Bool} (ht : s.table = (i : Int)) (hc : cols[i]? = some c) (hm : cH c = true) : okS cols s = okK s.kind (ak s.key && decide (s.key.t = c.getD 0 false)) (dr c s.pred) (dd c s.sets) (iC s) (bZ s) (bC c s.row) (decide (s.pred.nodes.length ≤ 13)) := by
 have hlt := (List.getElem?_eq_some_iff.1 hc).1
 have h1 : cols.getD s.table.toNat [] = c := by rw [ht, Int.toNat_natCast, List.getD_eq_getElem?_getD, hc]; rfl
 have h2 : decide (0 ≤ s.table) = true := decide_eq_true (by omega)
 have h3 : decide (s.table < (cols.length : Int)) = true := decide_eq_true (by omega)
 unfold okS okK iC bZ
 simp only [h1, h2, h3, hm, Bool.true_and]
theorem j9 (k : Int) : k = 4 ∨ k = 5 ∨ k = 6 ∨ k = 7 ∨ k = 8 ∨ k = 9 ∨ k = 10 ∨ k = 11 ∨ k = 12 ∨ k = 13 ∨ k = 14 ∨ k = 15 ∨ k = 16 ∨ k = 17 ∨ (k ≠ 4 ∧ k ≠ 5 ∧ k ≠ 6 ∧ k ≠ 7 ∧ k ≠ 8 ∧ k ≠ 9 ∧ k ≠ 10 ∧ k ≠ 11 ∧ k ≠ 12 ∧ k ≠ 13 ∧ k ≠ 14 ∧ k ≠ 15 ∧ k ≠ 16 ∧ k ≠ 17) := by omega
theorem sw {w : World} {tv : Value} {cols : List (List Bool)} {e : StmE} {s : StmM} (ht : TblsAt (aF w) tv cols) (hs : StmOk (aF w) e s) (hn : s.pred.nodes.length ≤ 1000000) :
  Calls Tryz.prog 12 #[tv, .agg e.cells.toArray] w fun r w' => r = .returned (.int .i64 (if okS cols s then 0 else 167)) ∧ Kept (fun _ => False) w w' := by
 obtain ⟨W0, hW0, h0⟩ : ∃ W, W = (w.alloc (.cells e.cells.toArray tSt)).alloc (.cells #[.slice none 0 0] bw) ∧ Sat w (aF w) W [blk (w.heap.size + 1) #[.slice none 0 0] bw, blk w.heap.size e.cells.toArray tSt] := by
  have h1 := ((Sat.start w).alloc e.cells.toArray tSt).alloc #[.slice none 0 0] bw
  rw [World.size_alloc] at h1
  exact ⟨_, rfl, h1⟩
 have tq := Bb hW0
 obtain ⟨us, hu1, hu2, hu3, hu4⟩ := ht
 obtain ⟨ta, tc, rfl⟩ := hu3.shape
 have HU := Bb (And.intro hu1 hu4)
 have wb := Bb hu3
 have tl := Bb hs
 have ze := Bb hn
 have sS := Bb h0
 obtain ⟨rr, hrr⟩ : ∃ rr : Int, rr = (if okS cols s then 0 else 167) := ⟨_, rfl⟩
 rw [← hrr]
 have HR := Bb hrr
 generalize hTN : cols.length = TN at *
 have wG := Bb hTN
 clear hW0 hu1 hu2 hu3 hu4 hs hn h0 hrr hTN
 go_enter Tryz.func12, Tryz.ntmps12
 go_upto_region 2 with fail
 rw [← tq.out]
 clear tq
 generalize w.heap.size + 1 = bt at sS ⊢
 generalize w.heap.size = bs at sS ⊢
 obtain ⟨x0, x2, x3, x4, x5, x6, x7, x17, x18, x19⟩ := bK (sS.out.blk 1 rfl)
 obtain ⟨z0, z1, z2, z3, z4, z5, z6, z7, z8⟩ := cY (sS.out.blk 1 rfl)
 obtain ⟨b0, bf⟩ := aq (sS.out.blk 0 rfl)
 rw [tl.out.kind] at x0
 rw [tl.out.table] at x2
 rw [tl.out.key] at x3 x4 x5
 rw [tl.out.save] at x17
 rw [tl.out.cursor] at x18
 have v6 := Bb (show e.row.v = .slice e.row.ro e.row.rn e.row.rc from rfl)
 obtain ⟨isb, his⟩ : ∃ isb : Bool, isb = (decide (0 ≤ s.table) && decide (s.table < (TN : Int))) := ⟨_, rfl⟩
 have uQ := Bb his
 clear his
 go_cut [6] (fun iv wx => iv = .bool isb ∧ wx = W0)
 case first =>
  by_cases hr1 : 0 ≤ s.table
  ·by_cases hr2 : s.table < (TN : Int)
   ·have hb : isb = true := by rw [uQ.out, decide_eq_true hr1, decide_eq_true hr2]; rfl
    go_wp2_with fail
    go_meet
    exact ⟨by rw [hb], rfl⟩
   ·have hb : isb = false := by rw [uQ.out, decide_eq_true hr1, decide_eq_false hr2]; rfl
    go_wp2_with fail
    go_meet
    exact ⟨by rw [hb], rfl⟩
  ·have hb : isb = false := by rw [uQ.out, decide_eq_false hr1]; rfl
   go_wp2_with fail
   go_meet
   exact ⟨by rw [hb], rfl⟩
 case rest =>
  obtain ⟨rfl, rfl⟩ := hcut
  go_upto_if 22 with fail
  go_cut [6] (fun iv wx => ∃ (jb : Bool) (ca : Option Addr) (cn cc : Nat), iv = .bool jb ∧ Sat w (aF w) wx [blk bt #[.slice ca cn cc] bw, blk bs e.cells.toArray tSt] ∧ ((jb = false ∧ okS cols s = okK s.kind false false false (iC s) (bZ s) false false) ∨ (jb = true ∧ ∃ (i : Nat) (c : List Bool), s.table = (i : Int) ∧ cols[i]? = some c ∧ cH c = true ∧ cn = c.length ∧ RdP (aF w) 1 (.slice ca cn cc) c.length (c.flatMap dY))))
  case first =>
   cases isb with
   | false =>
    have HE := Bb (show okS cols s = okK s.kind false false false (iC s) (bZ s) false false from oV (by rw [wG.out, ← uQ.out]; rfl))
    go_wp2_with fail
    go_meet
    exact ⟨false, none, 0, 0, rfl, sS.out, .inl ⟨rfl, HE.out⟩⟩
   | true =>
    have hr : 0 ≤ s.table ∧ s.table < (TN : Int) := by
     have h1 := uQ.out.symm
     simp only [Bool.and_eq_true, decide_eq_true_eq] at h1
     exact h1
    obtain ⟨hr1, hr2⟩ := hr
    obtain ⟨i, hi⟩ : ∃ i : Nat, s.table = (i : Int) := ⟨s.table.toNat, by omega⟩
    rw [hi] at x2 hr2
    have hiN : i < TN := by omega
    obtain ⟨c, hc⟩ : ∃ c, cols[i]? = some c := ⟨cols[i]'(by rw [wG.out]; exact hiN), List.getElem?_eq_getElem _⟩
    obtain ⟨cv, hcv⟩ : ∃ cv, us[i]? = some cv := ⟨us[i]'(by rw [HU.out.1]; exact hiN), List.getElem?_eq_getElem _⟩
    have hcol := HU.out.2 i cv c hcv hc
    obtain ⟨ca, cc, rfl⟩ := hcol.shape
    obtain ⟨tg, tof, rfl, htc⟩ : ∃ tg tof, ta = some ⟨tg, tof, none⟩ ∧ wc.cell? ⟨tg, tof + i, none⟩ = some (.slice ca c.length cc) := by
     obtain ⟨_, _, ao, cap, hv, _, _, _, hcell⟩ := wb.out.rd sS.out
     cases hv
     rcases hcell with h0 | ⟨g, og, hg, hcc⟩
     ·omega
     ·exact ⟨g, og, hg, hcc i _ hcv⟩
    have sK := Bb (sS.out.set 0 (.slice ca c.length cc))
    have uA := Bb hcol
    have HC := Bb hc
    have HI := Bb hi
    clear hc hcv hcol hr1 hi
    go_upto_region 5 with fail
    obtain ⟨W1, hW1⟩ : ∃ W, W = wc.setCell ⟨bt, 0, none⟩ (.slice ca c.length cc) := ⟨_, rfl⟩
    rw [← hW1] at sK ⊢
    have th := Bb (show Sat w (aF w) W1 [blk bt #[.slice ca c.length cc] bw, blk bs e.cells.toArray tSt] from sK.out)
    clear hW1 sK sS x0 x2 x3 x4 x5 x6 x7 x17 x18 x19 z0 z1 z2 z3 z4 z5 z6 z7 z8 b0 bf htc
    have tU := Bb (eV (uA.out.rd th.out))
    obtain ⟨b0, bf⟩ := aq (th.out.blk 0 rfl)
    cases hm : cH c with
    | false =>
     rw [show chk c = 1 by unfold chk; rw [hm]; rfl] at tU
     have HE := Bb (show okS cols s = okK s.kind false false false (iC s) (bZ s) false false from oV (by
      rw [HI.out, Int.toNat_natCast, List.getD_eq_getElem?_getD, HC.out]
      show (_ && cH c) = false
      rw [hm, Bool.and_false]))
     clear hm
     go_wp2_with (go_at_call 31; refine tU.out.mono ?_; rintro e1 w1 ⟨rfl, hk1⟩; have tG := Bb (th.out.kept hk1); clear hk1 tU th b0 bf)
     go_meet
     exact ⟨false, ca, c.length, cc, rfl, tG.out, .inl ⟨rfl, HE.out⟩⟩
    | true =>
     rw [show chk c = 0 by unfold chk; rw [hm]; rfl] at tU
     have HM := Bb hm
     clear hm
     go_wp2_with (go_at_call 31; refine tU.out.mono ?_; rintro e1 w1 ⟨rfl, hk1⟩; have tG := Bb (th.out.kept hk1); clear hk1 tU th b0 bf)
     go_meet
     exact ⟨true, ca, c.length, cc, rfl, tG.out, .inr ⟨rfl, i, c, HI.out, HC.out, HM.out, rfl, uA.out⟩⟩
  case rest =>
   obtain ⟨jb, ca, cn, cc, rfl, hs, hj⟩ := hcut
   have tG := Bb hs
   clear hs sS x0 x2 x3 x4 x5 x6 x7 x17 x18 x19 z0 z1 z2 z3 z4 z5 z6 z7 z8 b0 bf
   obtain ⟨x0, x2, x3, x4, x5, x6, x7, x17, x18, x19⟩ := bK (tG.out.blk 1 rfl)
   obtain ⟨z0, z1, z2, z3, z4, z5, z6, z7, z8⟩ := cY (tG.out.blk 1 rfl)
   obtain ⟨b0, bf⟩ := aq (tG.out.blk 0 rfl)
   rw [tl.out.kind] at x0
   rw [tl.out.key] at x3 x4 x5
   rw [tl.out.save] at x17
   rw [tl.out.cursor] at x18
   rcases hj with ⟨rfl, he⟩ | ⟨rfl, i, c, hi, hc, hm, rfl, hcol⟩
   ·have HE := Bb he
    clear he
    go_upto_region 6 with fail
    refine af [(0, false, 4), (1, false, 4), (2, false, 4), (3, false, 4), (4, true, 0), (5, false, 999), (6, false, 999), (7, false, 999), (8, false, 999), (9, false, 999), (10, false, 999), (11, false, 999), (12, false, 999), (13, false, 999), (14, false, 999), (15, false, 999), (16, false, 999)] (by kernel_rfl) (by kernel_rfl) ?_
    iterate 2 (refine ae rfl rfl (fun K hK => ?_); go_simp; refine hK _ ?_; clear hK K)
    iterate 2 (first | (refine ar rfl rfl ?_; simp only [Act.put, Bc, Bd, Be, Bf, Bg, Bh]) | (refine al rfl rfl (fun K hK => ?_); go_simp; refine hK _ ?_; clear hK K))
    refine ag rfl ?_
    refine bQ rfl ?_
    simp only [Act.put, Bc, Bd, Be]
    refine wpList_nil ?_
    refine And.intro ?_ ?_
    ·go_simp
    iterate 2 (refine ae rfl rfl (fun K hK => ?_); go_simp; refine hK _ ?_; clear hK K)
    iterate 8 (first | (refine ar rfl rfl ?_; simp only [Act.put, Bc, Bd, Be, Bf, Bg, Bh]) | (refine al rfl rfl (fun K hK => ?_); go_simp; refine hK _ ?_; clear hK K))
    iterate 2 (refine ae rfl rfl (fun K hK => ?_); go_simp; refine hK _ ?_; clear hK K)
    refine ah ?_
    have sW := Bb (tG.out.kept (Kept.refl (fun _ => False) _).drew)
    clear tG x0 x2 x3 x4 x5 x6 x7 x17 x18 x19 z0 z1 z2 z3 z4 z5 z6 z7 z8 b0 bf
    obtain ⟨x0, x2, x3, x4, x5, x6, x7, x17, x18, x19⟩ := bK (sW.out.blk 1 rfl)
    obtain ⟨z0, z1, z2, z3, z4, z5, z6, z7, z8⟩ := cY (sW.out.blk 1 rfl)
    obtain ⟨b0, bf⟩ := aq (sW.out.blk 0 rfl)
    rw [tl.out.kind] at x0
    rw [tl.out.key] at x3 x4 x5
    rw [tl.out.save] at x17
    rw [tl.out.cursor] at x18
    obtain ⟨cb, hcb⟩ : ∃ cb, iC s = cb := ⟨_, rfl⟩
    rw [hcb] at HE
    have xF := Bb (show cb = (decide (1 ≤ s.cursor) && decide (s.cursor ≤ 2)) from hcb.symm)
    clear hcb
    go_upto_region 9 with fail
    go_cut [10] (fun dv wx => dv = .bool cb ∧ Sat w (aF w) wx [blk bt #[.slice ca cn cc] bw, blk bs e.cells.toArray tSt])
    case first =>
     by_cases h1 : 1 ≤ s.cursor
     ·by_cases h2 : s.cursor ≤ 2
      ·have hb : cb = true := by rw [xF.out, decide_eq_true h1, decide_eq_true h2]; rfl
       go_wp2_with fail
       go_meet
       exact ⟨by rw [hb], sW.out⟩
      ·have hb : cb = false := by rw [xF.out, decide_eq_true h1, decide_eq_false h2]; rfl
       go_wp2_with fail
       go_meet
       exact ⟨by rw [hb], sW.out⟩
     ·have hb : cb = false := by rw [xF.out, decide_eq_false h1]; rfl
      go_wp2_with fail
      go_meet
      exact ⟨by rw [hb], sW.out⟩
    case rest =>
     obtain ⟨rfl, hs10⟩ := hcut
     clear sW x0 x2 x3 x4 x5 x6 x7 x17 x18 x19 z0 z1 z2 z3 z4 z5 z6 z7 z8 b0 bf
     have sW := Bb hs10
     clear hs10
     obtain ⟨x0, x2, x3, x4, x5, x6, x7, x17, x18, x19⟩ := bK (sW.out.blk 1 rfl)
     obtain ⟨z0, z1, z2, z3, z4, z5, z6, z7, z8⟩ := cY (sW.out.blk 1 rfl)
     obtain ⟨b0, bf⟩ := aq (sW.out.blk 0 rfl)
     rw [tl.out.kind] at x0
     rw [tl.out.key] at x3 x4 x5
     rw [tl.out.save] at x17
     rw [tl.out.cursor] at x18
     rcases j9 s.kind with hk | hk | hk | hk | hk | hk | hk | hk | hk | hk | hk | hk | hk | hk | hk
     ·rw [hk] at x0
      by_cases h1 : 1 ≤ s.save
      ·by_cases h2 : s.save ≤ 3
       ·go_wp2_with fail
        refine bodyPost_ret (results_tmp rfl _ _ _) rfl ?_
        exact ⟨by rw [HR.out, HE.out]; simp [okK, bZ, hk, h1, h2], sW.out.end_ (PH.le.refl _)⟩
       ·go_wp2_with fail
        refine bodyPost_ret (results_tmp rfl _ _ _) rfl ?_
        exact ⟨by rw [HR.out, HE.out]; simp [okK, bZ, hk, h1, h2], sW.out.end_ (PH.le.refl _)⟩
      ·go_wp2_with fail
       refine bodyPost_ret (results_tmp rfl _ _ _) rfl ?_
       exact ⟨by rw [HR.out, HE.out]; simp [okK, bZ, hk]; omega, sW.out.end_ (PH.le.refl _)⟩
     ·rw [hk] at x0
      by_cases h1 : 1 ≤ s.save
      ·by_cases h2 : s.save ≤ 3
       ·go_wp2_with fail
        refine bodyPost_ret (results_tmp rfl _ _ _) rfl ?_
        exact ⟨by rw [HR.out, HE.out]; simp [okK, bZ, hk, h1, h2], sW.out.end_ (PH.le.refl _)⟩
       ·go_wp2_with fail
        refine bodyPost_ret (results_tmp rfl _ _ _) rfl ?_
        exact ⟨by rw [HR.out, HE.out]; simp [okK, bZ, hk, h1, h2], sW.out.end_ (PH.le.refl _)⟩
      ·go_wp2_with fail
       refine bodyPost_ret (results_tmp rfl _ _ _) rfl ?_
       exact ⟨by rw [HR.out, HE.out]; simp [okK, bZ, hk]; omega, sW.out.end_ (PH.le.refl _)⟩
     ·rw [hk] at x0
      go_wp2_with fail
      refine bodyPost_ret (results_tmp rfl _ _ _) rfl ?_
      exact ⟨by rw [HR.out, HE.out]; simp [okK, bZ, hk], sW.out.end_ (PH.le.refl _)⟩
     ·rw [hk] at x0
      go_wp2_with fail
      refine bodyPost_ret (results_tmp rfl _ _ _) rfl ?_
      exact ⟨by rw [HR.out, HE.out]; simp [okK, bZ, hk], sW.out.end_ (PH.le.refl _)⟩
     ·rw [hk] at x0
      go_wp2_with fail
      refine bodyPost_ret (results_tmp rfl _ _ _) rfl ?_
      exact ⟨by rw [HR.out, HE.out]; simp [okK, bZ, hk], sW.out.end_ (PH.le.refl _)⟩
     ·rw [hk] at x0
      go_wp2_with fail
      refine bodyPost_ret (results_tmp rfl _ _ _) rfl ?_
      exact ⟨by rw [HR.out, HE.out]; simp [okK, bZ, hk], sW.out.end_ (PH.le.refl _)⟩
     ·rw [hk] at x0
      go_wp2_with fail
      refine bodyPost_ret (results_tmp rfl _ _ _) rfl ?_
      exact ⟨by rw [HR.out, HE.out]; simp [okK, bZ, hk], sW.out.end_ (PH.le.refl _)⟩
     ·rw [hk] at x0
      go_wp2_with fail
      refine bodyPost_ret (results_tmp rfl _ _ _) rfl ?_
      exact ⟨by rw [HR.out, HE.out]; simp [okK, bZ, hk], sW.out.end_ (PH.le.refl _)⟩
     ·rw [hk] at x0
      go_wp2_with fail
      refine bodyPost_ret (results_tmp rfl _ _ _) rfl ?_
      exact ⟨by rw [HR.out, HE.out]; simp [okK, bZ, hk], sW.out.end_ (PH.le.refl _)⟩
     ·rw [hk] at x0
      go_wp2_with fail
      refine bodyPost_ret (results_tmp rfl _ _ _) rfl ?_
      exact ⟨by rw [HR.out, HE.out]; simp [okK, bZ, hk], sW.out.end_ (PH.le.refl _)⟩
     ·rw [hk] at x0
      cases cb <;> (go_wp2_with fail; refine bodyPost_ret (results_tmp rfl _ _ _) rfl ?_; exact ⟨by rw [HR.out, HE.out]; simp [okK, bZ, hk], sW.out.end_ (PH.le.refl _)⟩)
     ·rw [hk] at x0
      cases cb <;> (go_wp2_with fail; refine bodyPost_ret (results_tmp rfl _ _ _) rfl ?_; exact ⟨by rw [HR.out, HE.out]; simp [okK, bZ, hk], sW.out.end_ (PH.le.refl _)⟩)
     ·rw [hk] at x0
      cases cb <;> (go_wp2_with fail; refine bodyPost_ret (results_tmp rfl _ _ _) rfl ?_; exact ⟨by rw [HR.out, HE.out]; simp [okK, bZ, hk], sW.out.end_ (PH.le.refl _)⟩)
     ·rw [hk] at x0
      cases cb <;> (go_wp2_with fail; refine bodyPost_ret (results_tmp rfl _ _ _) rfl ?_; exact ⟨by rw [HR.out, HE.out]; simp [okK, bZ, hk], sW.out.end_ (PH.le.refl _)⟩)
     ·obtain ⟨k4, k5, k6, k7, k8, k9, k10, k11, k12, k13, k14, k15, k16, k17⟩ := hk
      have hk : ¬ (14 ≤ s.kind ∧ s.kind ≤ 17) := by omega
      go_wp2_with fail
      refine bodyPost_ret (results_tmp rfl _ _ _) rfl ?_
      exact ⟨by rw [HR.out, HE.out]; simp [okK, bZ, hk, k4, k5, k6, k7, k8, k9, k10, k11, k12, k13], sW.out.end_ (PH.le.refl _)⟩
   ·have HE := Bb (show okS cols s = _ from pK hi hc hm)
    have HM := Bb hm
    have uA := Bb hcol
    obtain ⟨c0, hc0⟩ : ∃ c0, c[0]? = some c0 := ⟨c[0]'(by unfold cH at hm; simp at hm; omega), List.getElem?_eq_getElem _⟩
    have xO := Bb (show c.getD 0 false = c0 by rw [List.getD_eq_getElem?_getD, hc0]; rfl)
    rw [xO.out] at HE
    have hcl : 0 < c.length := (List.getElem?_eq_some_iff.1 hc0).1
    have hcl2 : (0 : Int) < (c.length : Int) := by omega
    obtain ⟨cg, cof, rfl, hcz⟩ : ∃ cg cof, ca = some ⟨cg, cof, none⟩ ∧ ∀ W, Sat w (aF w) W [blk bt #[.slice ca c.length cc] bw, blk bs e.cells.toArray tSt] → W.cell? ⟨cg, cof, none⟩ = some (.bool c0) := by
     obtain ⟨_, _, ao, cap, hv, _, _, _, hcell⟩ := hcol
     cases hv
     rcases hcell with h0 | ⟨g, og, rfl, hcc⟩
     ·omega
     ·refine ⟨g, og, rfl, fun W hW => ?_⟩
      obtain ⟨_, _, ao, cap, hv, _, _, _, hcell2⟩ := uA.out.rd hW
      cases hv
      rcases hcell2 with h0 | ⟨g2, og2, hg2, hcc2⟩
      ·omega
      ·cases hg2
       exact hcc2 0 _ (by cases c with | nil => cases hc0 | cons a c => simp at hc0; subst hc0; rfl)
    have Ap := Bb hcz
    have hcz0 := hcz _ tG.out
    obtain ⟨kb, hkb⟩ : ∃ kb, (ak s.key && decide (s.key.t = c0)) = kb := ⟨_, rfl⟩
    rw [hkb] at HE
    have Aq := Bb hkb
    clear hi hc hm hcol hc0 hcz hkb
    go_upto_region 6 with fail
    go_cut [7] (fun kv wx => kv = .bool kb ∧ Sat w (aF w) wx [blk bt #[.slice (some ⟨cg, cof, none⟩) c.length cc] bw, blk bs e.cells.toArray tSt])
    case first =>
     have tD := Bb (aG s.key wc.drew)
     cases hvr : ak s.key with
     | false =>
      rw [hvr] at tD
      have u7 := Bb (show kb = false by rw [← Aq.out, hvr]; rfl)
      clear hvr
      refine af [(0, false, 4), (1, false, 4), (2, false, 4), (3, false, 4), (4, true, 0), (5, false, 999), (6, false, 999), (7, false, 999), (8, false, 999), (9, false, 999), (10, false, 999), (11, false, 999), (12, false, 999), (13, false, 999), (14, false, 999), (15, false, 999), (16, false, 999)] (by kernel_rfl) (by kernel_rfl) ?_
      iterate 2 (refine ae rfl rfl (fun K hK => ?_); go_simp; refine hK _ ?_; clear hK K)
      iterate 2 (first | (refine ar rfl rfl ?_; simp only [Act.put, Bc, Bd, Be, Bf, Bg, Bh]) | (refine al rfl rfl (fun K hK => ?_); go_simp; refine hK _ ?_; clear hK K))
      refine ag rfl ?_
      refine am rfl (fun K hK => ?_)
      go_simp
      refine tD.out.mono ?_
      rintro e2 w2 ⟨rfl, hk2⟩
      have tK := Bb ((tG.out.kept (Kept.refl (fun _ => False) _).drew).kept hk2)
      clear hk2 tD tG x0 x2 x3 x4 x5 x6 x7 x17 x18 x19 z0 z1 z2 z3 z4 z5 z6 z7 z8 b0 bf hcz0
      obtain ⟨x0, x2, x3, x4, x5, x6, x7, x17, x18, x19⟩ := bK (tK.out.blk 1 rfl)
      obtain ⟨z0, z1, z2, z3, z4, z5, z6, z7, z8⟩ := cY (tK.out.blk 1 rfl)
      obtain ⟨b0, bf⟩ := aq (tK.out.blk 0 rfl)
      rw [tl.out.kind] at x0
      rw [tl.out.key] at x3 x4 x5
      rw [tl.out.save] at x17
      rw [tl.out.cursor] at x18
      have hcz0 := Ap.out w2 tK.out
      refine hK _ _ ?_
      clear hK K
      refine wpList_nil ?_
      refine And.intro ?_ ?_
      ·go_simp
      iterate 2 (refine ae rfl rfl (fun K hK => ?_); go_simp; refine hK _ ?_; clear hK K)
      iterate 8 (first | (refine ar rfl rfl ?_; simp only [Act.put, Bc, Bd, Be, Bf, Bg, Bh]) | (refine al rfl rfl (fun K hK => ?_); go_simp; refine hK _ ?_; clear hK K))
      iterate 2 (refine ae rfl rfl (fun K hK => ?_); go_simp; refine hK _ ?_; clear hK K)
      refine ah ?_
      go_wp2_with fail
      go_meet
      exact ⟨by rw [u7.out], tK.out⟩
     | true =>
      rw [hvr] at tD
      have u7 := Bb (show kb = (s.key.t == c0) by rw [← Aq.out, hvr]; rfl)
      clear hvr
      refine af [(0, false, 4), (1, false, 4), (2, false, 4), (3, false, 4), (4, true, 0), (5, false, 999), (6, false, 999), (7, false, 999), (8, false, 999), (9, false, 999), (10, false, 999), (11, false, 999), (12, false, 999), (13, false, 999), (14, false, 999), (15, false, 999), (16, false, 999)] (by kernel_rfl) (by kernel_rfl) ?_
      iterate 2 (refine ae rfl rfl (fun K hK => ?_); go_simp; refine hK _ ?_; clear hK K)
      iterate 2 (first | (refine ar rfl rfl ?_; simp only [Act.put, Bc, Bd, Be, Bf, Bg, Bh]) | (refine al rfl rfl (fun K hK => ?_); go_simp; refine hK _ ?_; clear hK K))
      refine ag rfl ?_
      refine am rfl (fun K hK => ?_)
      go_simp
      refine tD.out.mono ?_
      rintro e2 w2 ⟨rfl, hk2⟩
      have tK := Bb ((tG.out.kept (Kept.refl (fun _ => False) _).drew).kept hk2)
      clear hk2 tD tG x0 x2 x3 x4 x5 x6 x7 x17 x18 x19 z0 z1 z2 z3 z4 z5 z6 z7 z8 b0 bf hcz0
      obtain ⟨x0, x2, x3, x4, x5, x6, x7, x17, x18, x19⟩ := bK (tK.out.blk 1 rfl)
      obtain ⟨z0, z1, z2, z3, z4, z5, z6, z7, z8⟩ := cY (tK.out.blk 1 rfl)
      obtain ⟨b0, bf⟩ := aq (tK.out.blk 0 rfl)
      rw [tl.out.kind] at x0
      rw [tl.out.key] at x3 x4 x5
      rw [tl.out.save] at x17
      rw [tl.out.cursor] at x18
      have hcz0 := Ap.out w2 tK.out
      refine hK _ _ ?_
      clear hK K
      refine wpList_nil ?_
      refine And.intro ?_ ?_
      ·go_simp
      iterate 2 (refine ae rfl rfl (fun K hK => ?_); go_simp; refine hK _ ?_; clear hK K)
      iterate 8 (first | (refine ar rfl rfl ?_; simp only [Act.put, Bc, Bd, Be, Bf, Bg, Bh]) | (refine al rfl rfl (fun K hK => ?_); go_simp; refine hK _ ?_; clear hK K))
      iterate 2 (refine ae rfl rfl (fun K hK => ?_); go_simp; refine hK _ ?_; clear hK K)
      refine ah ?_
      go_wp2_with fail
      go_meet
      exact ⟨by rw [u7.out], tK.out⟩
    case rest =>
     obtain ⟨rfl, hs7⟩ := hcut
     have tK := Bb hs7
     clear hs7 tG x0 x2 x3 x4 x5 x6 x7 x17 x18 x19 z0 z1 z2 z3 z4 z5 z6 z7 z8 b0 bf hcz0
     obtain ⟨x0, x2, x3, x4, x5, x6, x7, x17, x18, x19⟩ := bK (tK.out.blk 1 rfl)
     obtain ⟨z0, z1, z2, z3, z4, z5, z6, z7, z8⟩ := cY (tK.out.blk 1 rfl)
     obtain ⟨b0, bf⟩ := aq (tK.out.blk 0 rfl)
     rw [tl.out.kind] at x0
     rw [tl.out.key] at x3 x4 x5
     rw [tl.out.save] at x17
     rw [tl.out.cursor] at x18
     obtain ⟨pb, hpb⟩ : ∃ pb, dr c s.pred = pb := ⟨_, rfl⟩
     rw [hpb] at HE
     have wV := Bb (oT e.pe uA.out HM.out tl.out.subs (by rw [tl.out.pred]; exact ze.out) tK.out)
     rw [tl.out.pred, hpb] at wV
     clear hpb
     go_upto_region 7 with fail
     go_cut [8] (fun dv wx => dv = .bool pb ∧ Sat w (aF w) wx [blk bt #[.slice (some ⟨cg, cof, none⟩) c.length cc] bw, blk bs e.cells.toArray tSt])
     case first =>
      cases pb
      ·go_wp2_with (go_at_call 33; refine wV.out.mono ?_; rintro e8 w8 ⟨rfl, hs8⟩; have tY := Bb hs8; clear hs8 wV tK x0 x2 x3 x4 x5 x6 x7 x17 x18 x19 z0 z1 z2 z3 z4 z5 z6 z7 z8 b0 bf)
       go_meet
       exact ⟨rfl, tY.out⟩
      ·go_wp2_with (go_at_call 33; refine wV.out.mono ?_; rintro e8 w8 ⟨rfl, hs8⟩; have tY := Bb hs8; clear hs8 wV tK x0 x2 x3 x4 x5 x6 x7 x17 x18 x19 z0 z1 z2 z3 z4 z5 z6 z7 z8 b0 bf)
       go_meet
       exact ⟨rfl, tY.out⟩
     case rest =>
      obtain ⟨rfl, hs8⟩ := hcut
      have tY := Bb hs8
      clear hs8 wV tK x0 x2 x3 x4 x5 x6 x7 x17 x18 x19 z0 z1 z2 z3 z4 z5 z6 z7 z8 b0 bf
      obtain ⟨x0, x2, x3, x4, x5, x6, x7, x17, x18, x19⟩ := bK (tY.out.blk 1 rfl)
      obtain ⟨z0, z1, z2, z3, z4, z5, z6, z7, z8⟩ := cY (tY.out.blk 1 rfl)
      obtain ⟨b0, bf⟩ := aq (tY.out.blk 0 rfl)
      rw [tl.out.kind] at x0
      rw [tl.out.key] at x3 x4 x5
      rw [tl.out.save] at x17
      rw [tl.out.cursor] at x18
      obtain ⟨sb, hsb⟩ : ∃ sb, dd c s.sets = sb := ⟨_, rfl⟩
      rw [hsb] at HE
      have tE := Bb (fL (uA.out.rd tY.out) (RdP.rd tl.out.sets.1 tY.out))
      rw [show dU c s.sets = if sb then 0 else 20 by unfold dU; rw [HM.out, hsb]; rfl] at tE
      obtain ⟨sva, svn, svc, hsv⟩ : ∃ a n c, e.sets.v = .slice a n c := ⟨_, _, _, rfl⟩
      rw [hsv] at tE x7
      clear hsb hsv
      go_upto_region 8 with fail
      go_cut [9] (fun dv wx => dv = .bool sb ∧ Sat w (aF w) wx [blk bt #[.slice (some ⟨cg, cof, none⟩) c.length cc] bw, blk bs e.cells.toArray tSt])
      case first =>
       cases sb
       ·go_wp2_with (go_at_call 34; refine tE.out.mono ?_; rintro e9 w9 ⟨rfl, hk9⟩; have ut := Bb (tY.out.kept hk9); clear hk9 tE tY x0 x2 x3 x4 x5 x6 x7 x17 x18 x19 z0 z1 z2 z3 z4 z5 z6 z7 z8 b0 bf)
        go_meet
        exact ⟨rfl, ut.out⟩
       ·go_wp2_with (go_at_call 34; refine tE.out.mono ?_; rintro e9 w9 ⟨rfl, hk9⟩; have ut := Bb (tY.out.kept hk9); clear hk9 tE tY x0 x2 x3 x4 x5 x6 x7 x17 x18 x19 z0 z1 z2 z3 z4 z5 z6 z7 z8 b0 bf)
        go_meet
        exact ⟨rfl, ut.out⟩
      case rest =>
       obtain ⟨rfl, hs9⟩ := hcut
       have sW := Bb hs9
       clear hs9 tE tY x0 x2 x3 x4 x5 x6 x7 x17 x18 x19 z0 z1 z2 z3 z4 z5 z6 z7 z8 b0 bf
       obtain ⟨x0, x2, x3, x4, x5, x6, x7, x17, x18, x19⟩ := bK (sW.out.blk 1 rfl)
       obtain ⟨z0, z1, z2, z3, z4, z5, z6, z7, z8⟩ := cY (sW.out.blk 1 rfl)
       obtain ⟨b0, bf⟩ := aq (sW.out.blk 0 rfl)
       rw [tl.out.kind] at x0
       rw [tl.out.key] at x3 x4 x5
       rw [tl.out.save] at x17
       rw [tl.out.cursor] at x18
       obtain ⟨cb, hcb⟩ : ∃ cb, iC s = cb := ⟨_, rfl⟩
       rw [hcb] at HE
       have xF := Bb (show cb = (decide (1 ≤ s.cursor) && decide (s.cursor ≤ 2)) from hcb.symm)
       clear hcb
       go_upto_region 9 with fail
       go_cut [10] (fun dv wx => dv = .bool cb ∧ Sat w (aF w) wx [blk bt #[.slice (some ⟨cg, cof, none⟩) c.length cc] bw, blk bs e.cells.toArray tSt])
       case first =>
        by_cases h1 : 1 ≤ s.cursor
        ·by_cases h2 : s.cursor ≤ 2
         ·have hb : cb = true := by rw [xF.out, decide_eq_true h1, decide_eq_true h2]; rfl
          go_wp2_with fail
          go_meet
          exact ⟨by rw [hb], sW.out⟩
         ·have hb : cb = false := by rw [xF.out, decide_eq_true h1, decide_eq_false h2]; rfl
          go_wp2_with fail
          go_meet
          exact ⟨by rw [hb], sW.out⟩
        ·have hb : cb = false := by rw [xF.out, decide_eq_false h1]; rfl
         go_wp2_with fail
         go_meet
         exact ⟨by rw [hb], sW.out⟩
       case rest =>
        obtain ⟨rfl, hs10⟩ := hcut
        clear sW x0 x2 x3 x4 x5 x6 x7 x17 x18 x19 z0 z1 z2 z3 z4 z5 z6 z7 z8 b0 bf
        have sW := Bb hs10
        clear hs10
        obtain ⟨x0, x2, x3, x4, x5, x6, x7, x17, x18, x19⟩ := bK (sW.out.blk 1 rfl)
        obtain ⟨z0, z1, z2, z3, z4, z5, z6, z7, z8⟩ := cY (sW.out.blk 1 rfl)
        obtain ⟨b0, bf⟩ := aq (sW.out.blk 0 rfl)
        rw [tl.out.kind] at x0
        rw [tl.out.key] at x3 x4 x5
        rw [tl.out.save] at x17
        rw [tl.out.cursor] at x18
        rcases j9 s.kind with hk | hk | hk | hk | hk | hk | hk | hk | hk | hk | hk | hk | hk | hk | hk
        ·rw [hk] at x0
         by_cases h1 : 1 ≤ s.save
         ·by_cases h2 : s.save ≤ 3
          ·go_wp2_with fail
           refine bodyPost_ret (results_tmp rfl _ _ _) rfl ?_
           exact ⟨by rw [HR.out, HE.out]; simp [okK, bZ, hk, h1, h2], sW.out.end_ (PH.le.refl _)⟩
          ·go_wp2_with fail
           refine bodyPost_ret (results_tmp rfl _ _ _) rfl ?_
           exact ⟨by rw [HR.out, HE.out]; simp [okK, bZ, hk, h1, h2], sW.out.end_ (PH.le.refl _)⟩
         ·go_wp2_with fail
          refine bodyPost_ret (results_tmp rfl _ _ _) rfl ?_
          exact ⟨by rw [HR.out, HE.out]; simp [okK, bZ, hk]; omega, sW.out.end_ (PH.le.refl _)⟩
        ·rw [hk] at x0
         by_cases h1 : 1 ≤ s.save
         ·by_cases h2 : s.save ≤ 3
          ·go_wp2_with fail
           refine bodyPost_ret (results_tmp rfl _ _ _) rfl ?_
           exact ⟨by rw [HR.out, HE.out]; simp [okK, bZ, hk, h1, h2], sW.out.end_ (PH.le.refl _)⟩
          ·go_wp2_with fail
           refine bodyPost_ret (results_tmp rfl _ _ _) rfl ?_
           exact ⟨by rw [HR.out, HE.out]; simp [okK, bZ, hk, h1, h2], sW.out.end_ (PH.le.refl _)⟩
         ·go_wp2_with fail
          refine bodyPost_ret (results_tmp rfl _ _ _) rfl ?_
          exact ⟨by rw [HR.out, HE.out]; simp [okK, bZ, hk]; omega, sW.out.end_ (PH.le.refl _)⟩
        ·rw [hk] at x0
         cases kb <;> (go_wp2_with fail; refine bodyPost_ret (results_tmp rfl _ _ _) rfl ?_; exact ⟨by rw [HR.out, HE.out]; simp [okK, bZ, hk], sW.out.end_ (PH.le.refl _)⟩)
        ·rw [hk] at x0
         have vM := Bb (jT (uA.out.rd sW.out) (RdP.rd tl.out.row.1 sW.out))
         rw [v6.out] at vM
         rw [v6.out] at x6
         cases hft : bC c s.row <;> rw [hft] at vM
         ·go_wp2_with (go_at_call 35; refine vM.out.mono ?_; rintro e8 w8 ⟨rfl, hk8⟩; have xG := Bb (sW.out.kept hk8); clear hk8 vM sW x0 x2 x3 x4 x5 x6 x7 x17 x18 x19 z0 z1 z2 z3 z4 z5 z6 z7 z8 b0 bf)
          refine bodyPost_ret (results_tmp rfl _ _ _) rfl ?_
          exact ⟨by rw [HR.out, HE.out]; simp [okK, bZ, hk, hft], xG.out.end_ (PH.le.refl _)⟩
         ·go_wp2_with (go_at_call 35; refine vM.out.mono ?_; rintro e8 w8 ⟨rfl, hk8⟩; have xG := Bb (sW.out.kept hk8); clear hk8 vM sW x0 x2 x3 x4 x5 x6 x7 x17 x18 x19 z0 z1 z2 z3 z4 z5 z6 z7 z8 b0 bf)
          refine bodyPost_ret (results_tmp rfl _ _ _) rfl ?_
          exact ⟨by rw [HR.out, HE.out]; simp [okK, bZ, hk, hft], xG.out.end_ (PH.le.refl _)⟩
        ·rw [hk] at x0
         cases kb <;> cases sb <;> (go_wp2_with fail; refine bodyPost_ret (results_tmp rfl _ _ _) rfl ?_; exact ⟨by rw [HR.out, HE.out]; simp [okK, bZ, hk], sW.out.end_ (PH.le.refl _)⟩)
        ·rw [hk] at x0
         cases kb <;> (go_wp2_with fail; refine bodyPost_ret (results_tmp rfl _ _ _) rfl ?_; exact ⟨by rw [HR.out, HE.out]; simp [okK, bZ, hk], sW.out.end_ (PH.le.refl _)⟩)
        ·rw [hk] at x0
         cases pb <;> (go_wp2_with fail; refine bodyPost_ret (results_tmp rfl _ _ _) rfl ?_; exact ⟨by rw [HR.out, HE.out]; simp [okK, bZ, hk], sW.out.end_ (PH.le.refl _)⟩)
        ·rw [hk] at x0
         cases pb <;> cases sb <;> (go_wp2_with fail; refine bodyPost_ret (results_tmp rfl _ _ _) rfl ?_; exact ⟨by rw [HR.out, HE.out]; simp [okK, bZ, hk], sW.out.end_ (PH.le.refl _)⟩)
        ·rw [hk] at x0
         cases pb <;> (go_wp2_with fail; refine bodyPost_ret (results_tmp rfl _ _ _) rfl ?_; exact ⟨by rw [HR.out, HE.out]; simp [okK, bZ, hk], sW.out.end_ (PH.le.refl _)⟩)
        ·rw [hk] at x0
         cases pb
         ·go_wp2_with fail
          refine bodyPost_ret (results_tmp rfl _ _ _) rfl ?_
          exact ⟨by rw [HR.out, HE.out]; simp [okK, bZ, hk], sW.out.end_ (PH.le.refl _)⟩
         ·cases cb
          ·go_wp2_with fail
           refine bodyPost_ret (results_tmp rfl _ _ _) rfl ?_
           exact ⟨by rw [HR.out, HE.out]; simp [okK, bZ, hk], sW.out.end_ (PH.le.refl _)⟩
          ·have tR := Bb (nu e.pe tl.out.subs (by rw [tl.out.pred]; exact ze.out) sW.out)
           rw [tl.out.pred] at tR
           by_cases h13 : s.pred.nodes.length ≤ 13
           ·have h13' : ((s.pred.nodes.length : Int) ≤ 13) := by omega
            generalize hnl : (s.pred.nodes.length : Int) = nl at tR h13'
            clear hnl
            go_wp2_with (go_at_call 36; refine tR.out.mono ?_; rintro e8 w8 ⟨rfl, hs8⟩; have xG := Bb hs8; clear hs8 tR sW x0 x2 x3 x4 x5 x6 x7 x17 x18 x19 z0 z1 z2 z3 z4 z5 z6 z7 z8 b0 bf)
            refine bodyPost_ret (results_tmp rfl _ _ _) rfl ?_
            exact ⟨by rw [HR.out, HE.out]; simp [okK, bZ, hk, h13], xG.out.end_ (PH.le.refl _)⟩
           ·have h13' : ((s.pred.nodes.length : Int) ≤ 13) = False := by simp; omega
            generalize hnl : (s.pred.nodes.length : Int) = nl at tR h13'
            clear hnl
            go_wp2_with (go_at_call 36; refine tR.out.mono ?_; rintro e8 w8 ⟨rfl, hs8⟩; have xG := Bb hs8; clear hs8 tR sW x0 x2 x3 x4 x5 x6 x7 x17 x18 x19 z0 z1 z2 z3 z4 z5 z6 z7 z8 b0 bf)
            refine bodyPost_ret (results_tmp rfl _ _ _) rfl ?_
            exact ⟨by rw [HR.out, HE.out]; simp [okK, bZ, hk, h13], xG.out.end_ (PH.le.refl _)⟩
        ·rw [hk] at x0
         cases cb <;> (go_wp2_with fail; refine bodyPost_ret (results_tmp rfl _ _ _) rfl ?_; exact ⟨by rw [HR.out, HE.out]; simp [okK, bZ, hk], sW.out.end_ (PH.le.refl _)⟩)
        ·rw [hk] at x0
         cases cb <;> (go_wp2_with fail; refine bodyPost_ret (results_tmp rfl _ _ _) rfl ?_; exact ⟨by rw [HR.out, HE.out]; simp [okK, bZ, hk], sW.out.end_ (PH.le.refl _)⟩)
        ·rw [hk] at x0
         cases cb <;> (go_wp2_with fail; refine bodyPost_ret (results_tmp rfl _ _ _) rfl ?_; exact ⟨by rw [HR.out, HE.out]; simp [okK, bZ, hk], sW.out.end_ (PH.le.refl _)⟩)
        ·rw [hk] at x0
         cases cb <;> (go_wp2_with fail; refine bodyPost_ret (results_tmp rfl _ _ _) rfl ?_; exact ⟨by rw [HR.out, HE.out]; simp [okK, bZ, hk], sW.out.end_ (PH.le.refl _)⟩)
        ·obtain ⟨k4, k5, k6, k7, k8, k9, k10, k11, k12, k13, k14, k15, k16, k17⟩ := hk
         have hk : ¬ (14 ≤ s.kind ∧ s.kind ≤ 17) := by omega
         go_wp2_with fail
         refine bodyPost_ret (results_tmp rfl _ _ _) rfl ?_
         exact ⟨by rw [HR.out, HE.out]; simp [okK, bZ, hk, k4, k5, k6, k7, k8, k9, k10, k11, k12, k13], sW.out.end_ (PH.le.refl _)⟩
end Go.Proofs.YtdobimafhbfkhaaGreat
