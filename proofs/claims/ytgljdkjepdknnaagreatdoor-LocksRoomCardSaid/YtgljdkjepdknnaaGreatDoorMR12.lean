/- Whether two claims are in conflict (claim.meets, claim.Conflict). (printed by genconf.py) -/
import Derived.Test.YtgljdkjepdknnaaGreatDoorMR10
import Derived.Test.YtgljdkjepdknnaaGreatDoorMR11
import Derived.Test.YtgljdkjepdknnaaGreatDoorMR7
import Derived.Test.YtgljdkjepdknnaaGreatDoorMR5
namespace Go.Proofs.YtgljdkjepdknnaaGreatDoor
open Go.ChangeShapes Go.WideShapes Go.ChangeAt Go.RowKit
set_option maxRecDepth 100000
set_option linter.unusedSimpArgs false

theorem boxClm2 {w : World} {b : Nat} {x : ClmE} {t : TypeId} {fr : Nat × Nat} (h : w.heap[b]? = some (.cells x.cells.toArray t fr)) :
  w.cell? ⟨b, 2, none⟩ = some (.int .i64 x.mode) ∧ w.cell? ⟨b, 6, none⟩ = some (.slice x.ia x.il x.ic) := by
 refine ⟨?_, ?_⟩ <;> simp [World.cell?, h, ClmE.cells]
/-- as wpList_ld, where a guard says yes -/
theorem wpList_ldw {P : Program} {w : World} {o : Oper} {a : Act} {ops : Array Oper} {rest : List Oper} {Q : Exit → Act → World → Prop} (hgd : Region.wanted o (yielded ops a.tmps) = true) (ty : TypeId) (x : Operand) (ho : o.op = .load ty x) (b i : Nat) (hx : a.eval x = .pointer (some ⟨b, i, none⟩)) (cs : List Value)
  (hl : (loadVar ty ⟨b, i, none⟩).run P w = .ok (.agg cs.toArray) w) (h : wpList P ops Q rest (a.put o.dst (.agg cs.toArray)) w) : wpList P ops Q (o :: rest) a w :=
 wpList_do hgd fun _ hK => by
  unfold Oper.wp execOp
  simp only [ho, hx, Instr.loadAt, Instr.sureAddr, Sem.run_bind, Sem.run_pure, Result.andThen_ok, hl]
  exact hK _ _ h
set_option maxHeartbeats 2000000 in
theorem meets1F {w : World} {b : Nat} {x : ClmE} (hb : w.heap[b]? = some (.cells x.cells.toArray tCl (0, 0))) (hx : PredsRd w (.slice x.pr.la x.pr.ln x.pr.lc) x.pr.subs) (r : List Val) :
  PredR 159 #[.pointer (some ⟨b, 0, none⟩)] w r (!(decide (0 < r.length) && x.pr.p.holds r)) := by
 refine ⟨enters_of Tryz.func159 (by kernel_rfl) rfl, fun W rv hW hr => ?_⟩
 have HL := Lib.hid (loadPr (boxClP (kept_blk hW hb)))
 have HC := Lib.hid (predHolds_ok x.pr.p x.pr W rv r rfl (hx.kept hW) hr)
 obtain ⟨_, hml, ra, rc, rfl, _⟩ := id hr
 unfold maxLen at hml
 clear hb hx hW hr
 show Calls Tryz.prog 159 #[.slice ra r.length rc, .pointer (some ⟨b, 0, none⟩)] W _
 by_cases h0 : r.length = 0
 ·have HR := Lib.hid (show (!(decide (0 < r.length) && x.pr.p.holds r)) = true by simp [h0])
  rw [HR.out, h0]
  clear HR HC HL
  go_enter Tryz.func159, Tryz.ntmps159
  go_wp2_with fail
  go_ret
  exact ⟨rfl, Kept.refl _ _⟩
 ·have HR := Lib.hid (show (!(decide (0 < r.length) && x.pr.p.holds r)) = !(x.pr.p.holds r) by rw [decide_eq_true (by omega)]; simp)
  have hne : ((r.length : Int) == 0) = false := by simp; intro h; exact h0 (by rw [h]; rfl)
  rw [HR.out]
  clear HR h0
  generalize x.pr.p.holds r = rr at *
  generalize r.length = rl at *
  go_enter Tryz.func159, Tryz.ntmps159
  go_wp2_with (first | (refine wpList_ldw rfl _ _ rfl _ _ rfl _ HL.out ?_) | (go_at_call 160; refine HC.out.mono ?_; rintro e1 w1 ⟨rfl, hk1⟩; have HK1 := Lib.hid hk1; clear hk1 HC HL))
  go_ret
  exact ⟨rfl, HK1.out⟩
set_option maxHeartbeats 2000000 in
theorem meets_ok {w : World} {x y : ClmE} (hx : RdCl w x) (hy : RdCl w y) : Calls Tryz.prog 115 #[.agg x.cells.toArray, .agg y.cells.toArray] w fun r w' => r = .returned (.bool (clmMeets x.c y.c)) ∧ Kept (fun _ => False) w w' := by
 obtain ⟨W1, hW1, hk1, hb1, hb2⟩ := alloc2p w x.cells.toArray y.cells.toArray tCl tCl
 have HA := Lib.hid (all_R (fun r => !(decide (0 < r.length) && x.pr.p.holds r)) (hy.1.kept hk1) (fun r _ => meets1F hb1 (hx.2.kept hk1) r))
 have HW1 := Lib.hid hW1
 have HK1 := Lib.hid hk1
 have HB2 := Lib.hid hb2
 have HP := Lib.hid (show clmMeets x.c y.c = (decide (y.mode = 6) && !(y.imgs.all (fun r => !(decide (0 < r.length) && x.pr.p.holds r)))) by
  show (decide (y.mode = 6) && y.imgs.any _) = _
  rw [List.all_eq_not_any_not, Bool.not_not]
  congr 2
  funext r
  rw [Bool.not_not]
  rfl)
 rw [HP.out]
 clear hW1 hk1 hb1 hb2 hx hy HP
 generalize (y.imgs.all fun r => !(decide (0 < r.length) && x.pr.p.holds r)) = rr at *
 by_cases hm : y.mode = 6
 ·have HR := Lib.hid (show (decide (y.mode = 6) && !rr) = !rr by rw [decide_eq_true hm]; simp)
  rw [HR.out]
  have HM := Lib.hid hm
  clear HR hm
  go_enter Tryz.func115, Tryz.ntmps115
  go_upto_region 1 with fail
  rw [← HW1.out]
  clear HW1
  generalize w.heap.size + 1 = b2 at HB2 HA ⊢
  generalize w.heap.size = b1 at HA ⊢
  obtain ⟨y2, y6⟩ := boxClm2 HB2.out
  rw [HM.out] at y2
  go_wp2_with (go_at_call 118; refine HA.out.mono ?_; rintro e1 w1 ⟨rfl, hk2⟩; have HK2 := Lib.hid (HK1.out.trans hk2 (fun _ h => h.elim)); clear hk2 HA y2 y6)
  go_ret
  exact ⟨rfl, HK2.out⟩
 ·have HR := Lib.hid (show (decide (y.mode = 6) && !rr) = false by rw [decide_eq_false hm]; simp)
  rw [HR.out]
  have hq : (y.mode == 6) = false := by simpa using hm
  clear HR hm HA
  go_enter Tryz.func115, Tryz.ntmps115
  go_upto_region 1 with fail
  rw [← HW1.out]
  clear HW1
  generalize w.heap.size + 1 = b2 at HB2 ⊢
  generalize w.heap.size = b1 at *
  obtain ⟨y2, y6⟩ := boxClm2 HB2.out
  go_wp2_with fail
  go_ret
  exact ⟨rfl, HK1.out⟩
set_option maxHeartbeats 8000000 in
theorem conf_C {w : World} {x y : ClmE} (he : Env w) (hx : RdCl w x) (hy : RdCl w y) : Calls Tryz.prog 75 #[.agg x.cells.toArray, .agg y.cells.toArray] w fun r w' => r = .returned (.bool (RC.conf x.c y.c)) ∧ Kept (fun _ => False) w w' := by
 obtain ⟨W1, hW1, hk1, hb1, hb2⟩ := alloc2p w x.cells.toArray y.cells.toArray tCl tCl
 have HW1 := Lib.hid hW1
 have HK1 := Lib.hid hk1
 have HB1 := Lib.hid hb1
 have HB2 := Lib.hid hb2
 have HX := Lib.hid (hx.kept hk1)
 have HY := Lib.hid (hy.kept hk1)
 have HE := Lib.hid (he.kept hk1)
 have HP := Lib.hid (show RC.conf x.c y.c = (decide (x.table = y.table) && (if x.kind = 1 ∧ y.kind = 1 then !fitsM x.mode y.mode else if x.kind = 2 ∧ y.kind = 2 then decide (x.key = y.key) && !fitsM x.mode y.mode else if x.kind = 3 ∧ y.kind = 2 then clmMeets x.c y.c else if x.kind = 2 ∧ y.kind = 3 then clmMeets y.c x.c else false)) from rfl)
 have HSM := Lib.hid (show RC.same x.c y.c = (decide (x.kind = y.kind) && decide (x.table = y.table) && (if x.kind = 1 then true else if x.kind = 2 then decide (x.key = y.key) else if x.kind = 3 then predEq x.pr.p y.pr.p else false)) from rfl)
 clear hW1 hk1 hb1 hb2 hx hy he
 by_cases ht : x.table = y.table
 ·have hq : (x.table == y.table) = true := by simpa using ht
  have hq2 : (x.table != y.table) = false := by simpa using ht
  by_cases hk32 : x.kind = 3 ∧ y.kind = 2
  ·obtain ⟨h1, h2⟩ := hk32
   have HR := Lib.hid (show RC.conf x.c y.c = clmMeets x.c y.c by rw [HP.out, ht, h1, h2]; simp)
   have a1 : abEq x.kind y.kind 3 2 = true := by unfold abEq; rw [h1, h2]; decide
   rw [HR.out]
   clear ht h1 h2 HP HR HSM
   go_enter Tryz.func75, Tryz.ntmps75
   go_upto_region 1 with fail
   rw [← HW1.out]
   clear HW1
   generalize w.heap.size + 1 = b2 at HB2 ⊢
   generalize w.heap.size = b1 at HB1 ⊢
   obtain ⟨x0, x1, x3, x4, x5⟩ := boxClm HB1.out
   obtain ⟨y0, y1, y3, y4, y5⟩ := boxClm HB2.out
   go_upto_region 4 with fail
   obtain ⟨W2, hW2, hk2, hb3⟩ : ∃ W, W = W1.alloc (.cells #[.int .i64 x.kind, .int .i64 y.kind] 151) ∧ Kept (fun _ => False) W1 W ∧ W.heap[W1.heap.size]? = some (.cells #[.int .i64 x.kind, .int .i64 y.kind] 151 (0, 0)) := ⟨_, rfl, (Kept.refl _ _).alloc _, heap_alloc_self _ _⟩
   rw [← hW2]
   have HK2 := Lib.hid (HK1.out.trans hk2 (fun _ h => h.elim))
   have hbx := (hk2.block b1 (lt_of_heap HB1.out) (fun h => h)).trans HB1.out
   have hby := (hk2.block b2 (lt_of_heap HB2.out) (fun h => h)).trans HB2.out
   have HLX := Lib.hid (loadCl (blk_range hbx))
   have HLY := Lib.hid (loadCl (blk_range hby))
   obtain ⟨z0, z1, _⟩ := cells2 hb3
   have HX2 := Lib.hid (HX.out.kept hk2)
   have HY2 := Lib.hid (HY.out.kept hk2)
   have HE2 := Lib.hid (HE.out.kept hk2)
   have HBX := Lib.hid hbx
   have HBY := Lib.hid hby
   clear hW2 hk2 hb3 hbx hby x0 x1 x3 x4 x5 y0 y1 y3 y4 y5 HX HY HE
   generalize W1.heap.size = b3 at z0 z1 ⊢
   have HMT := Lib.hid (meets_ok HX2.out HY2.out)
   clear HX2 HY2 HE2 HBX HBY HB1 HB2
   go_wp2_with (first | (refine wpList_ld rfl _ _ rfl _ _ rfl _ HLX.out ?_) | (refine wpList_ld rfl _ _ rfl _ _ rfl _ HLY.out ?_) | (go_at_call 115; refine HMT.out.mono ?_; rintro r3 w3 ⟨rfl, hk3⟩; have HK3 := Lib.hid (HK2.out.trans hk3 (fun _ h => h.elim)); clear hk3 HMT HLX HLY z0 z1))
   go_ret
   exact ⟨rfl, HK3.out⟩
  by_cases hk23 : x.kind = 2 ∧ y.kind = 3
  ·obtain ⟨h1, h2⟩ := hk23
   have HR := Lib.hid (show RC.conf x.c y.c = clmMeets y.c x.c by rw [HP.out, ht, h1, h2]; simp)
   have a1 : abEq x.kind y.kind 3 2 = false := by unfold abEq; rw [h1, h2]; decide
   have a2 : abEq x.kind y.kind 2 3 = true := by unfold abEq; rw [h1, h2]; decide
   rw [HR.out]
   clear ht h1 h2 HP HR HSM
   go_enter Tryz.func75, Tryz.ntmps75
   go_upto_region 1 with fail
   rw [← HW1.out]
   clear HW1
   generalize w.heap.size + 1 = b2 at HB2 ⊢
   generalize w.heap.size = b1 at HB1 ⊢
   obtain ⟨x0, x1, x3, x4, x5⟩ := boxClm HB1.out
   obtain ⟨y0, y1, y3, y4, y5⟩ := boxClm HB2.out
   go_upto_region 4 with fail
   obtain ⟨W2, hW2, hk2, hb3⟩ : ∃ W, W = W1.alloc (.cells #[.int .i64 x.kind, .int .i64 y.kind] 151) ∧ Kept (fun _ => False) W1 W ∧ W.heap[W1.heap.size]? = some (.cells #[.int .i64 x.kind, .int .i64 y.kind] 151 (0, 0)) := ⟨_, rfl, (Kept.refl _ _).alloc _, heap_alloc_self _ _⟩
   rw [← hW2]
   have HK2 := Lib.hid (HK1.out.trans hk2 (fun _ h => h.elim))
   have hbx := (hk2.block b1 (lt_of_heap HB1.out) (fun h => h)).trans HB1.out
   have hby := (hk2.block b2 (lt_of_heap HB2.out) (fun h => h)).trans HB2.out
   have HLX := Lib.hid (loadCl (blk_range hbx))
   have HLY := Lib.hid (loadCl (blk_range hby))
   obtain ⟨z0, z1, _⟩ := cells2 hb3
   have HX2 := Lib.hid (HX.out.kept hk2)
   have HY2 := Lib.hid (HY.out.kept hk2)
   have HE2 := Lib.hid (HE.out.kept hk2)
   have HBX := Lib.hid hbx
   have HBY := Lib.hid hby
   clear hW2 hk2 hb3 hbx hby x0 x1 x3 x4 x5 y0 y1 y3 y4 y5 HX HY HE
   generalize W1.heap.size = b3 at z0 z1 ⊢
   have HMT := Lib.hid (meets_ok HY2.out HX2.out)
   clear HX2 HY2 HE2 HBX HBY HB1 HB2
   go_wp2_with (first | (refine wpList_ld rfl _ _ rfl _ _ rfl _ HLX.out ?_) | (refine wpList_ld rfl _ _ rfl _ _ rfl _ HLY.out ?_) | (go_at_call 115; refine HMT.out.mono ?_; rintro r3 w3 ⟨rfl, hk3⟩; have HK3 := Lib.hid (HK2.out.trans hk3 (fun _ h => h.elim)); clear hk3 HMT HLX HLY z0 z1))
   go_ret
   exact ⟨rfl, HK3.out⟩
  by_cases hkl2 : x.kind = 2 ∧ y.kind = 2
  ·obtain ⟨h1, h2⟩ := hkl2
   have a1 : abEq x.kind y.kind 3 2 = false := by unfold abEq; rw [h1, h2]; decide
   have a2 : abEq x.kind y.kind 2 3 = false := by unfold abEq; rw [h1, h2]; decide
   have a3 : abEq x.kind y.kind 2 2 = true := by unfold abEq; rw [h1, h2]; decide
   by_cases hkey : x.key = y.key
   ·have HS0 := Lib.hid (show RC.same x.c y.c = true by rw [HSM.out, h1, h2, ht]; simp [hkey])
    have HR := Lib.hid (show RC.conf x.c y.c = !fitsM x.mode y.mode by rw [HP.out, h1, h2, ht]; simp [hkey])
    rw [HR.out]
    clear ht h1 h2 HP HR HSM hkey
    go_enter Tryz.func75, Tryz.ntmps75
    go_upto_region 1 with fail
    rw [← HW1.out]
    clear HW1
    generalize w.heap.size + 1 = b2 at HB2 ⊢
    generalize w.heap.size = b1 at HB1 ⊢
    obtain ⟨x0, x1, x3, x4, x5⟩ := boxClm HB1.out
    obtain ⟨y0, y1, y3, y4, y5⟩ := boxClm HB2.out
    go_upto_region 4 with fail
    obtain ⟨W2, hW2, hk2, hb3⟩ : ∃ W, W = W1.alloc (.cells #[.int .i64 x.kind, .int .i64 y.kind] 151) ∧ Kept (fun _ => False) W1 W ∧ W.heap[W1.heap.size]? = some (.cells #[.int .i64 x.kind, .int .i64 y.kind] 151 (0, 0)) := ⟨_, rfl, (Kept.refl _ _).alloc _, heap_alloc_self _ _⟩
    rw [← hW2]
    have HK2 := Lib.hid (HK1.out.trans hk2 (fun _ h => h.elim))
    have hbx := (hk2.block b1 (lt_of_heap HB1.out) (fun h => h)).trans HB1.out
    have hby := (hk2.block b2 (lt_of_heap HB2.out) (fun h => h)).trans HB2.out
    have HLX := Lib.hid (loadCl (blk_range hbx))
    have HLY := Lib.hid (loadCl (blk_range hby))
    obtain ⟨z0, z1, _⟩ := cells2 hb3
    have HX2 := Lib.hid (HX.out.kept hk2)
    have HY2 := Lib.hid (HY.out.kept hk2)
    have HE2 := Lib.hid (HE.out.kept hk2)
    have HBX := Lib.hid hbx
    have HBY := Lib.hid hby
    clear hW2 hk2 hb3 hbx hby x0 x1 x3 x4 x5 y0 y1 y3 y4 y5 HX HY HE
    generalize W1.heap.size = b3 at z0 z1 ⊢
    have HSS := Lib.hid (same_C HX2.out HY2.out)
    rw [HS0.out] at HSS
    clear HS0
    go_wp2_with (first | (refine wpList_ld rfl _ _ rfl _ _ rfl _ HLX.out ?_) | (refine wpList_ld rfl _ _ rfl _ _ rfl _ HLY.out ?_) | (go_at_call 74; refine HSS.out.mono ?_; rintro r3 w3 ⟨rfl, hk3⟩; have HK3 := Lib.hid (HK2.out.trans hk3 (fun _ h => h.elim)); have HFT := Lib.hid (Fits_ok x.mode y.mode w3 (HE2.out.kept hk3).2); have x2 := (boxClm2 (kept_blk hk3 HBX.out)).1; have y2 := (boxClm2 (kept_blk hk3 HBY.out)).1; clear hk3 HSS HLX HLY z0 z1) | (go_at_call 116; refine HFT.out.mono ?_; rintro r4 w4 ⟨rfl, rfl⟩; clear HFT))
    go_ret
    exact ⟨rfl, HK3.out⟩
   ·have HS0 := Lib.hid (show RC.same x.c y.c = false by rw [HSM.out, h1, h2, ht]; simp [hkey])
    have HR := Lib.hid (show RC.conf x.c y.c = false by rw [HP.out, h1, h2, ht]; simp [hkey])
    rw [HR.out]
    clear ht h1 h2 HP HR HSM hkey
    go_enter Tryz.func75, Tryz.ntmps75
    go_upto_region 1 with fail
    rw [← HW1.out]
    clear HW1
    generalize w.heap.size + 1 = b2 at HB2 ⊢
    generalize w.heap.size = b1 at HB1 ⊢
    obtain ⟨x0, x1, x3, x4, x5⟩ := boxClm HB1.out
    obtain ⟨y0, y1, y3, y4, y5⟩ := boxClm HB2.out
    go_upto_region 4 with fail
    obtain ⟨W2, hW2, hk2, hb3⟩ : ∃ W, W = W1.alloc (.cells #[.int .i64 x.kind, .int .i64 y.kind] 151) ∧ Kept (fun _ => False) W1 W ∧ W.heap[W1.heap.size]? = some (.cells #[.int .i64 x.kind, .int .i64 y.kind] 151 (0, 0)) := ⟨_, rfl, (Kept.refl _ _).alloc _, heap_alloc_self _ _⟩
    rw [← hW2]
    have HK2 := Lib.hid (HK1.out.trans hk2 (fun _ h => h.elim))
    have hbx := (hk2.block b1 (lt_of_heap HB1.out) (fun h => h)).trans HB1.out
    have hby := (hk2.block b2 (lt_of_heap HB2.out) (fun h => h)).trans HB2.out
    have HLX := Lib.hid (loadCl (blk_range hbx))
    have HLY := Lib.hid (loadCl (blk_range hby))
    obtain ⟨z0, z1, _⟩ := cells2 hb3
    have HX2 := Lib.hid (HX.out.kept hk2)
    have HY2 := Lib.hid (HY.out.kept hk2)
    have HE2 := Lib.hid (HE.out.kept hk2)
    have HBX := Lib.hid hbx
    have HBY := Lib.hid hby
    clear hW2 hk2 hb3 hbx hby x0 x1 x3 x4 x5 y0 y1 y3 y4 y5 HX HY HE
    generalize W1.heap.size = b3 at z0 z1 ⊢
    have HSS := Lib.hid (same_C HX2.out HY2.out)
    rw [HS0.out] at HSS
    clear HS0
    go_wp2_with (first | (refine wpList_ld rfl _ _ rfl _ _ rfl _ HLX.out ?_) | (refine wpList_ld rfl _ _ rfl _ _ rfl _ HLY.out ?_) | (go_at_call 74; refine HSS.out.mono ?_; rintro r3 w3 ⟨rfl, hk3⟩; have HK3 := Lib.hid (HK2.out.trans hk3 (fun _ h => h.elim)); clear hk3 HSS HLX HLY z0 z1))
    go_ret
    exact ⟨rfl, HK3.out⟩
  by_cases hkl1 : x.kind = 1 ∧ y.kind = 1
  ·obtain ⟨h1, h2⟩ := hkl1
   have a1 : abEq x.kind y.kind 3 2 = false := by unfold abEq; rw [h1, h2]; decide
   have a2 : abEq x.kind y.kind 2 3 = false := by unfold abEq; rw [h1, h2]; decide
   have a3 : abEq x.kind y.kind 2 2 = false := by unfold abEq; rw [h1, h2]; decide
   have a4 : abEq x.kind y.kind 1 1 = true := by unfold abEq; rw [h1, h2]; decide
   have HS0 := Lib.hid (show RC.same x.c y.c = true by rw [HSM.out, h1, h2, ht]; simp)
   have HR := Lib.hid (show RC.conf x.c y.c = !fitsM x.mode y.mode by rw [HP.out, h1, h2, ht]; simp)
   rw [HR.out]
   clear ht h1 h2 HP HR HSM
   go_enter Tryz.func75, Tryz.ntmps75
   go_upto_region 1 with fail
   rw [← HW1.out]
   clear HW1
   generalize w.heap.size + 1 = b2 at HB2 ⊢
   generalize w.heap.size = b1 at HB1 ⊢
   obtain ⟨x0, x1, x3, x4, x5⟩ := boxClm HB1.out
   obtain ⟨y0, y1, y3, y4, y5⟩ := boxClm HB2.out
   go_upto_region 4 with fail
   obtain ⟨W2, hW2, hk2, hb3⟩ : ∃ W, W = W1.alloc (.cells #[.int .i64 x.kind, .int .i64 y.kind] 151) ∧ Kept (fun _ => False) W1 W ∧ W.heap[W1.heap.size]? = some (.cells #[.int .i64 x.kind, .int .i64 y.kind] 151 (0, 0)) := ⟨_, rfl, (Kept.refl _ _).alloc _, heap_alloc_self _ _⟩
   rw [← hW2]
   have HK2 := Lib.hid (HK1.out.trans hk2 (fun _ h => h.elim))
   have hbx := (hk2.block b1 (lt_of_heap HB1.out) (fun h => h)).trans HB1.out
   have hby := (hk2.block b2 (lt_of_heap HB2.out) (fun h => h)).trans HB2.out
   have HLX := Lib.hid (loadCl (blk_range hbx))
   have HLY := Lib.hid (loadCl (blk_range hby))
   obtain ⟨z0, z1, _⟩ := cells2 hb3
   have HX2 := Lib.hid (HX.out.kept hk2)
   have HY2 := Lib.hid (HY.out.kept hk2)
   have HE2 := Lib.hid (HE.out.kept hk2)
   have HBX := Lib.hid hbx
   have HBY := Lib.hid hby
   clear hW2 hk2 hb3 hbx hby x0 x1 x3 x4 x5 y0 y1 y3 y4 y5 HX HY HE
   generalize W1.heap.size = b3 at z0 z1 ⊢
   have HSS := Lib.hid (same_C HX2.out HY2.out)
   rw [HS0.out] at HSS
   clear HS0
   go_wp2_with (first | (refine wpList_ld rfl _ _ rfl _ _ rfl _ HLX.out ?_) | (refine wpList_ld rfl _ _ rfl _ _ rfl _ HLY.out ?_) | (go_at_call 74; refine HSS.out.mono ?_; rintro r3 w3 ⟨rfl, hk3⟩; have HK3 := Lib.hid (HK2.out.trans hk3 (fun _ h => h.elim)); have HFT := Lib.hid (Fits_ok x.mode y.mode w3 (HE2.out.kept hk3).2); have x2 := (boxClm2 (kept_blk hk3 HBX.out)).1; have y2 := (boxClm2 (kept_blk hk3 HBY.out)).1; clear hk3 HSS HLX HLY z0 z1) | (go_at_call 116; refine HFT.out.mono ?_; rintro r4 w4 ⟨rfl, rfl⟩; clear HFT))
   go_ret
   exact ⟨rfl, HK3.out⟩
  have a1 : abEq x.kind y.kind 3 2 = false := by unfold abEq; rw [Bool.and_eq_false_iff, decide_eq_false_iff_not, decide_eq_false_iff_not]; omega
  have a2 : abEq x.kind y.kind 2 3 = false := by unfold abEq; rw [Bool.and_eq_false_iff, decide_eq_false_iff_not, decide_eq_false_iff_not]; omega
  have a3 : abEq x.kind y.kind 2 2 = false := by unfold abEq; rw [Bool.and_eq_false_iff, decide_eq_false_iff_not, decide_eq_false_iff_not]; omega
  have a4 : abEq x.kind y.kind 1 1 = false := by unfold abEq; rw [Bool.and_eq_false_iff, decide_eq_false_iff_not, decide_eq_false_iff_not]; omega
  have HR := Lib.hid (show RC.conf x.c y.c = false by rw [HP.out, if_neg hkl1, if_neg hkl2, if_neg hk32, if_neg hk23]; simp)
  rw [HR.out]
  clear ht hk32 hk23 hkl1 hkl2 HP HR HSM
  go_enter Tryz.func75, Tryz.ntmps75
  go_upto_region 1 with fail
  rw [← HW1.out]
  clear HW1
  generalize w.heap.size + 1 = b2 at HB2 ⊢
  generalize w.heap.size = b1 at HB1 ⊢
  obtain ⟨x0, x1, x3, x4, x5⟩ := boxClm HB1.out
  obtain ⟨y0, y1, y3, y4, y5⟩ := boxClm HB2.out
  go_upto_region 4 with fail
  obtain ⟨W2, hW2, hk2, hb3⟩ : ∃ W, W = W1.alloc (.cells #[.int .i64 x.kind, .int .i64 y.kind] 151) ∧ Kept (fun _ => False) W1 W ∧ W.heap[W1.heap.size]? = some (.cells #[.int .i64 x.kind, .int .i64 y.kind] 151 (0, 0)) := ⟨_, rfl, (Kept.refl _ _).alloc _, heap_alloc_self _ _⟩
  rw [← hW2]
  have HK2 := Lib.hid (HK1.out.trans hk2 (fun _ h => h.elim))
  have hbx := (hk2.block b1 (lt_of_heap HB1.out) (fun h => h)).trans HB1.out
  have hby := (hk2.block b2 (lt_of_heap HB2.out) (fun h => h)).trans HB2.out
  have HLX := Lib.hid (loadCl (blk_range hbx))
  have HLY := Lib.hid (loadCl (blk_range hby))
  obtain ⟨z0, z1, _⟩ := cells2 hb3
  have HX2 := Lib.hid (HX.out.kept hk2)
  have HY2 := Lib.hid (HY.out.kept hk2)
  have HE2 := Lib.hid (HE.out.kept hk2)
  have HBX := Lib.hid hbx
  have HBY := Lib.hid hby
  clear hW2 hk2 hb3 hbx hby x0 x1 x3 x4 x5 y0 y1 y3 y4 y5 HX HY HE
  generalize W1.heap.size = b3 at z0 z1 ⊢
  go_wp2_with fail
  go_ret
  exact ⟨rfl, HK2.out⟩
 ·have hq : (x.table == y.table) = false := by simpa using ht
  have hq2 : (x.table != y.table) = true := by simpa using ht
  have HR := Lib.hid (show RC.conf x.c y.c = false by rw [HP.out]; simp [ht])
  rw [HR.out]
  clear ht HP HSM HX HY HR HE
  go_enter Tryz.func75, Tryz.ntmps75
  go_upto_region 1 with fail
  rw [← HW1.out]
  clear HW1
  generalize w.heap.size + 1 = b2 at HB2 ⊢
  generalize w.heap.size = b1 at HB1 ⊢
  obtain ⟨x0, x1, x3, x4, x5⟩ := boxClm HB1.out
  obtain ⟨y0, y1, y3, y4, y5⟩ := boxClm HB2.out
  go_wp2_with fail
  go_ret
  exact ⟨rfl, HK1.out⟩
end Go.Proofs.YtgljdkjepdknnaaGreatDoor
