/- Joined texts: Whether a predicate may be (pred.Check). A part of a predicate (pred.checker.part). (printed by genlkpart.py) -/
import Derived.Test.YtgljdkjepdknnaaGreatDoorMT22
import Derived.Test.YtgljdkjepdknnaaGreatDoorMT12
import Derived.Test.YtgljdkjepdknnaaGreatDoorMT10
set_option maxHeartbeats 64000000
namespace Go.Proofs.YtgljdkjepdknnaaGreatDoor
open Go.ChangeShapes Go.WideShapes Go.ChangeAt Go.RowKit
set_option maxRecDepth 100000
set_option linter.unusedSimpArgs false
abbrev tCk : TypeId := 159
mutual
def PredT.nodes : PredT → List PredT
 | .mk op col v w l => .mk op col v w l :: PredT.nodesL l
def PredT.nodesL : List PredT → List PredT
 | [] => []
 | p :: l => p.nodes ++ PredT.nodesL l
end
theorem jh : ∀ l : List PredT, PredT.nodesL l = l.flatMap PredT.nodes
 | [] => rfl
 | p :: l => by unfold PredT.nodesL; rw [jh l]; rfl
theorem gd (op col : Int) (v w : Val) (l : List PredT) : (PredT.mk op col v w l).nodes = .mk op col v w l :: l.flatMap PredT.nodes := by
 conv => lhs; unfold PredT.nodes
 rw [jh]
def bE (c : List Bool) (i : Int) (v : Val) : Bool := decide (0 ≤ i) && decide (i < (c.length : Int)) && decide (v.t = c.getD i.toNat false) && a9 v
def az (c : List Bool) (p : PredT) : Bool :=
 if p.op = 1 ∨ p.op = 2 then p.l.isEmpty
 else if 3 ≤ p.op ∧ p.op ≤ 8 then p.l.isEmpty && bE c p.col p.v
 else if p.op = 9 then p.l.isEmpty && bE c p.col p.v && bE c p.col p.w
 else if p.op = 10 then decide (p.l.length = 1)
 else if p.op = 11 ∨ p.op = 12 then decide (0 < p.l.length)
 else false
def cA (c : List Bool) (p : PredT) : Bool := p.nodes.all (az c) && decide (p.nodes.length ≤ 15)
theorem ix {w : World} {ck : Nat} {cv : Value} {b : Bool} {c : List Bool} (i : Int) (v : Val) (hk : w.heap[ck]? = some (.cells #[cv, .bool b] tCk (0, 0))) (hc : da w cv c) :
  Calls Tryz.prog 165 #[.pointer (some ⟨ck, 0, none⟩), .int .i64 i, v.v] w fun e w' => e = .returned (.bool (bE c i v)) ∧ Kept (fun _ => False) w w' := by
 obtain ⟨W1, hW1, hk1, hbx, hb1⟩ := bQ hk #[.bool v.t, .int .i64 v.n, .string v.s] tV
 have HC := BO (Rd.kept hc hk1.drew (fun _ _ h => h))
 obtain ⟨_, m1, ao, cap, rfl, _⟩ := hc
 have sR := BO hW1
 have sW := BO hk1
 obtain ⟨d0, d1, df⟩ := aH hb1
 have tu := BO hbx
 clear hk hW1 hk1 hbx hb1
 unfold maxLen at m1
 by_cases h1 : 0 ≤ i
 ·by_cases h2 : i < (c.length : Int)
  ·obtain ⟨k, rfl⟩ : ∃ k : Nat, i = (k : Int) := ⟨i.toNat, by omega⟩
   obtain ⟨x, hx⟩ : ∃ x, c[k]? = some x := ⟨c[k]'(by omega), List.getElem?_eq_getElem _⟩
   obtain ⟨cg, cog, rfl⟩ := gJ HC.out hx rfl
   have hcc := fo HC.out hx
   have hg : c.getD ((k : Int)).toNat false = x := by rw [List.getD_eq_getElem?_getD, Int.toNat_natCast, hx]; rfl
   by_cases h3 : v.t = x
   ·subst h3
    have HV := BO (show bE c (k : Int) v = a9 v by unfold bE; rw [hg]; simp; omega)
    rw [HV.out]
    have HR := BO (ig v)
    generalize a9 v = rr at *
    generalize hN : c.length = N at *
    clear hx hg hN HC HV
    go_enter Tryz.func165, Tryz.ntmps165
    go_upto_region 1 with fail
    rw [← sR.out]
    clear sR
    generalize w.heap.size = bx at tu ⊢
    obtain ⟨x0, x1, x2, xf⟩ := fV tu.out
    refine af [(0, false, 27), (1, false, 27), (2, false, 27), (3, false, 27), (4, false, 27), (5, false, 27), (6, false, 27), (7, false, 27), (8, false, 27), (9, false, 27), (10, false, 27), (11, false, 27), (12, false, 27), (13, false, 27), (14, false, 27), (15, false, 27), (16, false, 27), (17, false, 27), (18, false, 27), (19, false, 27), (20, false, 27), (21, false, 27), (22, false, 27), (23, false, 27), (24, false, 27), (25, false, 27), (26, false, 27), (27, true, 0), (28, false, 999), (29, false, 999)] (by kernel_rfl) (by kernel_rfl) ?_
    iterate 3 (refine ae rfl rfl (fun K hK => ?_); go_simp; refine hK _ ?_; clear hK K)
    iterate 8 (first | (refine am rfl rfl ?_; simp only [Act.put, BP, BQ, BR, BS, BT, BU]) | (refine ak rfl rfl (fun K hK => ?_); go_simp; refine hK _ ?_; clear hK K))
    iterate 2 (refine ae rfl rfl (fun K hK => ?_); go_simp; refine hK _ ?_; clear hK K)
    iterate 11 (first | (refine am rfl rfl ?_; simp only [Act.put, BP, BQ, BR, BS, BT, BU]) | (refine ak rfl rfl (fun K hK => ?_); go_simp; refine hK _ ?_; clear hK K))
    iterate 2 (refine ae rfl rfl (fun K hK => ?_); go_simp; refine hK _ ?_; clear hK K)
    first | (refine am rfl rfl ?_; simp only [Act.put, BP, BQ, BR, BS, BT, BU]) | (refine ak rfl rfl (fun K hK => ?_); go_simp; refine hK _ ?_; clear hK K)
    refine al rfl ?_
    refine aw rfl (fun K hK => ?_)
    go_simp
    refine (HR.out _).mono ?_
    rintro e4 w4 ⟨rfl, hk5⟩
    have uq := BO (sW.out.drew.trans hk5 (fun _ h => h.elim))
    clear hk5 x0 x1 x2 xf d0 d1 df hcc
    refine hK _ _ ?_
    clear hK K
    refine wpList_nil ?_
    refine And.intro ?_ ?_
    ·go_simp
    iterate 2 (refine ae rfl rfl (fun K hK => ?_); go_simp; refine hK _ ?_; clear hK K)
    refine ap ?_
    go_wp2_with fail
    go_ret
    exact ⟨rfl, uq.out⟩
   ·have HV := BO (show bE c (k : Int) v = false by unfold bE; rw [hg]; simp [h3])
    obtain rfl : x = !v.t := by cases x <;> cases h : v.t <;> simp_all
    rw [HV.out]
    generalize hN : c.length = N at *
    clear hx hg hN HC HV h3
    go_enter Tryz.func165, Tryz.ntmps165
    go_upto_region 1 with fail
    rw [← sR.out]
    clear sR
    generalize w.heap.size = bx at tu ⊢
    obtain ⟨x0, x1, x2, xf⟩ := fV tu.out
    refine af [(0, false, 27), (1, false, 27), (2, false, 27), (3, false, 27), (4, false, 27), (5, false, 27), (6, false, 27), (7, false, 27), (8, false, 27), (9, false, 27), (10, false, 27), (11, false, 27), (12, false, 27), (13, false, 27), (14, false, 27), (15, false, 27), (16, false, 27), (17, false, 27), (18, false, 27), (19, false, 27), (20, false, 27), (21, false, 27), (22, false, 27), (23, false, 27), (24, false, 27), (25, false, 27), (26, false, 27), (27, true, 0), (28, false, 999), (29, false, 999)] (by kernel_rfl) (by kernel_rfl) ?_
    iterate 3 (refine ae rfl rfl (fun K hK => ?_); go_simp; refine hK _ ?_; clear hK K)
    iterate 8 (first | (refine am rfl rfl ?_; simp only [Act.put, BP, BQ, BR, BS, BT, BU]) | (refine ak rfl rfl (fun K hK => ?_); go_simp; refine hK _ ?_; clear hK K))
    iterate 2 (refine ae rfl rfl (fun K hK => ?_); go_simp; refine hK _ ?_; clear hK K)
    iterate 11 (first | (refine am rfl rfl ?_; simp only [Act.put, BP, BQ, BR, BS, BT, BU]) | (refine ak rfl rfl (fun K hK => ?_); go_simp; refine hK _ ?_; clear hK K))
    iterate 2 (refine ae rfl rfl (fun K hK => ?_); go_simp; refine hK _ ?_; clear hK K)
    first | (refine am rfl rfl ?_; simp only [Act.put, BP, BQ, BR, BS, BT, BU]) | (refine ak rfl rfl (fun K hK => ?_); go_simp; refine hK _ ?_; clear hK K)
    refine al rfl ?_
    refine bI rfl ?_
    simp only [Act.put, BP, BQ, BR]
    refine wpList_nil ?_
    refine And.intro ?_ ?_
    ·go_simp
    iterate 2 (refine ae rfl rfl (fun K hK => ?_); go_simp; refine hK _ ?_; clear hK K)
    refine ap ?_
    go_wp2_with fail
    go_ret
    exact ⟨rfl, sW.out.drew⟩
  ·have HV := BO (show bE c i v = false by unfold bE; rw [decide_eq_false h2]; simp)
   rw [HV.out]
   clear HC HV
   go_enter Tryz.func165, Tryz.ntmps165
   go_upto_region 1 with fail
   rw [← sR.out]
   clear sR
   generalize w.heap.size = bx at tu ⊢
   refine af [(0, false, 27), (1, false, 27), (2, false, 27), (3, false, 27), (4, false, 27), (5, false, 27), (6, false, 27), (7, false, 27), (8, false, 27), (9, false, 27), (10, false, 27), (11, false, 27), (12, false, 27), (13, false, 27), (14, false, 27), (15, false, 27), (16, false, 27), (17, false, 27), (18, false, 27), (19, false, 27), (20, false, 27), (21, false, 27), (22, false, 27), (23, false, 27), (24, false, 27), (25, false, 27), (26, false, 27), (27, true, 0), (28, false, 999), (29, false, 999)] (by kernel_rfl) (by kernel_rfl) ?_
   iterate 3 (refine ae rfl rfl (fun K hK => ?_); go_simp; refine hK _ ?_; clear hK K)
   iterate 8 (first | (refine am rfl rfl ?_; simp only [Act.put, BP, BQ, BR, BS, BT, BU]) | (refine ak rfl rfl (fun K hK => ?_); go_simp; refine hK _ ?_; clear hK K))
   iterate 2 (refine ae rfl rfl (fun K hK => ?_); go_simp; refine hK _ ?_; clear hK K)
   iterate 11 (first | (refine am rfl rfl ?_; simp only [Act.put, BP, BQ, BR, BS, BT, BU]) | (refine ak rfl rfl (fun K hK => ?_); go_simp; refine hK _ ?_; clear hK K))
   iterate 2 (refine ae rfl rfl (fun K hK => ?_); go_simp; refine hK _ ?_; clear hK K)
   first | (refine am rfl rfl ?_; simp only [Act.put, BP, BQ, BR, BS, BT, BU]) | (refine ak rfl rfl (fun K hK => ?_); go_simp; refine hK _ ?_; clear hK K)
   refine al rfl ?_
   refine bI rfl ?_
   simp only [Act.put, BP, BQ, BR]
   refine wpList_nil ?_
   refine And.intro ?_ ?_
   ·go_simp
   iterate 2 (refine ae rfl rfl (fun K hK => ?_); go_simp; refine hK _ ?_; clear hK K)
   refine ap ?_
   go_wp2_with fail
   go_ret
   exact ⟨rfl, sW.out.drew⟩
 ·have HV := BO (show bE c i v = false by unfold bE; rw [decide_eq_false h1]; simp)
  rw [HV.out]
  clear HC HV
  go_enter Tryz.func165, Tryz.ntmps165
  go_upto_region 1 with fail
  rw [← sR.out]
  clear sR
  generalize w.heap.size = bx at tu ⊢
  refine af [(0, false, 27), (1, false, 27), (2, false, 27), (3, false, 27), (4, false, 27), (5, false, 27), (6, false, 27), (7, false, 27), (8, false, 27), (9, false, 27), (10, false, 27), (11, false, 27), (12, false, 27), (13, false, 27), (14, false, 27), (15, false, 27), (16, false, 27), (17, false, 27), (18, false, 27), (19, false, 27), (20, false, 27), (21, false, 27), (22, false, 27), (23, false, 27), (24, false, 27), (25, false, 27), (26, false, 27), (27, true, 0), (28, false, 999), (29, false, 999)] (by kernel_rfl) (by kernel_rfl) ?_
  iterate 3 (refine ae rfl rfl (fun K hK => ?_); go_simp; refine hK _ ?_; clear hK K)
  iterate 8 (first | (refine am rfl rfl ?_; simp only [Act.put, BP, BQ, BR, BS, BT, BU]) | (refine ak rfl rfl (fun K hK => ?_); go_simp; refine hK _ ?_; clear hK K))
  iterate 2 (refine ae rfl rfl (fun K hK => ?_); go_simp; refine hK _ ?_; clear hK K)
  iterate 11 (first | (refine am rfl rfl ?_; simp only [Act.put, BP, BQ, BR, BS, BT, BU]) | (refine ak rfl rfl (fun K hK => ?_); go_simp; refine hK _ ?_; clear hK K))
  iterate 2 (refine ae rfl rfl (fun K hK => ?_); go_simp; refine hK _ ?_; clear hK K)
  first | (refine am rfl rfl ?_; simp only [Act.put, BP, BQ, BR, BS, BT, BU]) | (refine ak rfl rfl (fun K hK => ?_); go_simp; refine hK _ ?_; clear hK K)
  refine al rfl ?_
  refine bI rfl ?_
  simp only [Act.put, BP, BQ, BR]
  refine wpList_nil ?_
  refine And.intro ?_ ?_
  ·go_simp
  iterate 2 (refine ae rfl rfl (fun K hK => ?_); go_simp; refine hK _ ?_; clear hK K)
  refine ap ?_
  go_wp2_with fail
  go_ret
  exact ⟨rfl, sW.out.drew⟩
def de (B : World) (D : PH) (l : List HP) (ck : Nat) (cv : Value) (b : Bool) (e : Ending) (w' : World) : Prop := e = .returned (.tuple #[]) ∧ Sat B D w' (blk ck #[cv, .bool b] tCk :: l)
theorem Sat.setCk {B w : World} {D : PH} {l : List HP} {ck : Nat} {cv : Value} {b : Bool} (hs : Sat B D w (Proofs.YtgljdkjepdknnaaGreatDoor.blk ck #[cv, .bool b] tCk :: l)) (u : Bool) : Sat B D (w.setCell ⟨ck, 1, none⟩ (.bool u)) (Proofs.YtgljdkjepdknnaaGreatDoor.blk ck #[cv, .bool u] tCk :: l) := hs.set 1 (.bool u)
theorem part_1 {B w : World} {D : PH} {l : List HP} {ck : Nat} {cv : Value} {b : Bool} {c : List Bool} (op col : Int) (hop : op = 1) (v w0 : Val) (la : Option Addr) (n lc : Nat) (subs : List PredT) (hn : n = subs.length) (hc : ∀ W, Kept (fun _ => False) w W → da W cv c) (h : Sat B D w (blk ck #[cv, .bool b] tCk :: l)) :
  Calls Tryz.prog 125 #[.pointer (some ⟨ck, 0, none⟩), .agg (PredE.cells ⟨op, col, v, w0, la, n, lc, subs⟩).toArray] w (de B D l ck cv (b || !az c (.mk op col v w0 subs))) := by
 subst hop
 obtain ⟨W1, hW1, hs1⟩ := Sat.hide (h.alloc (PredE.cells ⟨1, col, v, w0, la, n, lc, subs⟩).toArray tPr)
 have sW := BO (show Kept (fun _ => False) w W1 by rw [hW1]; exact (Kept.refl _ _).alloc _)
 have sR := BO hW1
 have sS := BO hs1
 have HC := BO hc
 clear h hW1 hs1 hc
 by_cases h0 : n = 0
 ·subst h0
  obtain rfl : subs = [] := List.length_eq_zero_iff.1 hn.symm
  have HO := BO (show az c (.mk 1 col v w0 []) = true by unfold az; simp only [PredT.op, PredT.col, PredT.v, PredT.w, PredT.l]; simp)
  rw [HO.out]
  clear HO hn
  cases b
  all_goals
   go_enter Tryz.func125, Tryz.ntmps125
   go_upto_region 1 with fail
   rw [← sR.out]
   clear sR
   generalize w.heap.size = bx at sS ⊢
   obtain ⟨x0, x1, x2, x3, x4, x5, x6, x7, x8⟩ := aK (sS.out.blk 0 rfl)
   obtain ⟨d0, d1, df⟩ := aH (sS.out.blk 1 rfl)
   go_wp2_with fail
   go_end0
   first
    | exact ⟨rfl, (Sat.setCk sS.out.swap _).swap.drop⟩
    | exact ⟨rfl, (show (!((n : Int) == 0)) = true by simp; omega) ▸ (Sat.setCk sS.out.swap (!((n : Int) == 0))).swap.drop⟩
    | exact ⟨rfl, (show (!((n : Int) == 1)) = true by simp; omega) ▸ (Sat.setCk sS.out.swap (!((n : Int) == 1))).swap.drop⟩
 ·have h1 : ¬ (n : Int) = 0 := by omega
  have h2 : 0 < n := by omega
  have h3 : (n : Int) > 0 := by omega
  have he : subs.isEmpty = false := by cases subs with | nil => simp at hn; omega | cons _ _ => rfl
  have HO := BO (show az c (.mk 1 col v w0 subs) = false by unfold az; simp only [PredT.op, PredT.col, PredT.v, PredT.w, PredT.l]; simp [he])
  rw [HO.out]
  clear HO hn
  cases b
  all_goals
   go_enter Tryz.func125, Tryz.ntmps125
   go_upto_region 1 with fail
   rw [← sR.out]
   clear sR
   generalize w.heap.size = bx at sS ⊢
   obtain ⟨x0, x1, x2, x3, x4, x5, x6, x7, x8⟩ := aK (sS.out.blk 0 rfl)
   obtain ⟨d0, d1, df⟩ := aH (sS.out.blk 1 rfl)
   clear he
   go_wp2_with fail
   go_end0
   first
    | exact ⟨rfl, (Sat.setCk sS.out.swap _).swap.drop⟩
    | exact ⟨rfl, (show (!((n : Int) == 0)) = true by simp; omega) ▸ (Sat.setCk sS.out.swap (!((n : Int) == 0))).swap.drop⟩
    | exact ⟨rfl, (show (!((n : Int) == 1)) = true by simp; omega) ▸ (Sat.setCk sS.out.swap (!((n : Int) == 1))).swap.drop⟩
theorem part_2 {B w : World} {D : PH} {l : List HP} {ck : Nat} {cv : Value} {b : Bool} {c : List Bool} (op col : Int) (hop : op = 2) (v w0 : Val) (la : Option Addr) (n lc : Nat) (subs : List PredT) (hn : n = subs.length) (hc : ∀ W, Kept (fun _ => False) w W → da W cv c) (h : Sat B D w (blk ck #[cv, .bool b] tCk :: l)) :
  Calls Tryz.prog 125 #[.pointer (some ⟨ck, 0, none⟩), .agg (PredE.cells ⟨op, col, v, w0, la, n, lc, subs⟩).toArray] w (de B D l ck cv (b || !az c (.mk op col v w0 subs))) := by
 subst hop
 obtain ⟨W1, hW1, hs1⟩ := Sat.hide (h.alloc (PredE.cells ⟨2, col, v, w0, la, n, lc, subs⟩).toArray tPr)
 have sW := BO (show Kept (fun _ => False) w W1 by rw [hW1]; exact (Kept.refl _ _).alloc _)
 have sR := BO hW1
 have sS := BO hs1
 have HC := BO hc
 clear h hW1 hs1 hc
 by_cases h0 : n = 0
 ·subst h0
  obtain rfl : subs = [] := List.length_eq_zero_iff.1 hn.symm
  have HO := BO (show az c (.mk 2 col v w0 []) = true by unfold az; simp only [PredT.op, PredT.col, PredT.v, PredT.w, PredT.l]; simp)
  rw [HO.out]
  clear HO hn
  cases b
  all_goals
   go_enter Tryz.func125, Tryz.ntmps125
   go_upto_region 1 with fail
   rw [← sR.out]
   clear sR
   generalize w.heap.size = bx at sS ⊢
   obtain ⟨x0, x1, x2, x3, x4, x5, x6, x7, x8⟩ := aK (sS.out.blk 0 rfl)
   obtain ⟨d0, d1, df⟩ := aH (sS.out.blk 1 rfl)
   go_wp2_with fail
   go_end0
   first
    | exact ⟨rfl, (Sat.setCk sS.out.swap _).swap.drop⟩
    | exact ⟨rfl, (show (!((n : Int) == 0)) = true by simp; omega) ▸ (Sat.setCk sS.out.swap (!((n : Int) == 0))).swap.drop⟩
    | exact ⟨rfl, (show (!((n : Int) == 1)) = true by simp; omega) ▸ (Sat.setCk sS.out.swap (!((n : Int) == 1))).swap.drop⟩
 ·have h1 : ¬ (n : Int) = 0 := by omega
  have h2 : 0 < n := by omega
  have h3 : (n : Int) > 0 := by omega
  have he : subs.isEmpty = false := by cases subs with | nil => simp at hn; omega | cons _ _ => rfl
  have HO := BO (show az c (.mk 2 col v w0 subs) = false by unfold az; simp only [PredT.op, PredT.col, PredT.v, PredT.w, PredT.l]; simp [he])
  rw [HO.out]
  clear HO hn
  cases b
  all_goals
   go_enter Tryz.func125, Tryz.ntmps125
   go_upto_region 1 with fail
   rw [← sR.out]
   clear sR
   generalize w.heap.size = bx at sS ⊢
   obtain ⟨x0, x1, x2, x3, x4, x5, x6, x7, x8⟩ := aK (sS.out.blk 0 rfl)
   obtain ⟨d0, d1, df⟩ := aH (sS.out.blk 1 rfl)
   clear he
   go_wp2_with fail
   go_end0
   first
    | exact ⟨rfl, (Sat.setCk sS.out.swap _).swap.drop⟩
    | exact ⟨rfl, (show (!((n : Int) == 0)) = true by simp; omega) ▸ (Sat.setCk sS.out.swap (!((n : Int) == 0))).swap.drop⟩
    | exact ⟨rfl, (show (!((n : Int) == 1)) = true by simp; omega) ▸ (Sat.setCk sS.out.swap (!((n : Int) == 1))).swap.drop⟩
theorem part_3 {B w : World} {D : PH} {l : List HP} {ck : Nat} {cv : Value} {b : Bool} {c : List Bool} (op col : Int) (hop : op = 3) (v w0 : Val) (la : Option Addr) (n lc : Nat) (subs : List PredT) (hn : n = subs.length) (hc : ∀ W, Kept (fun _ => False) w W → da W cv c) (h : Sat B D w (blk ck #[cv, .bool b] tCk :: l)) :
  Calls Tryz.prog 125 #[.pointer (some ⟨ck, 0, none⟩), .agg (PredE.cells ⟨op, col, v, w0, la, n, lc, subs⟩).toArray] w (de B D l ck cv (b || !az c (.mk op col v w0 subs))) := by
 subst hop
 obtain ⟨W1, hW1, hs1⟩ := Sat.hide (h.alloc (PredE.cells ⟨3, col, v, w0, la, n, lc, subs⟩).toArray tPr)
 have sW := BO (show Kept (fun _ => False) w W1 by rw [hW1]; exact (Kept.refl _ _).alloc _)
 have sR := BO hW1
 have sS := BO hs1
 have HC := BO hc
 clear h hW1 hs1 hc
 by_cases h0 : n = 0
 ·subst h0
  obtain rfl : subs = [] := List.length_eq_zero_iff.1 hn.symm
  have HO := BO (show az c (.mk 3 col v w0 []) = bE c col v by unfold az; simp only [PredT.op, PredT.col, PredT.v, PredT.w, PredT.l]; simp)
  rw [HO.out]
  clear HO hn
  cases b
  all_goals
   go_enter Tryz.func125, Tryz.ntmps125
   go_upto_region 1 with fail
   rw [← sR.out]
   clear sR
   generalize w.heap.size = bx at sS ⊢
   obtain ⟨x0, x1, x2, x3, x4, x5, x6, x7, x8⟩ := aK (sS.out.blk 0 rfl)
   obtain ⟨d0, d1, df⟩ := aH (sS.out.blk 1 rfl)
   have toq := BO (ix (w := W1) col v (sS.out.blk 1 rfl) (HC.out W1 sW.out))
   generalize bE c col v = rr at *
   go_wp2_with (go_at_call 165; refine toq.out.mono ?_; rintro e1 w1 ⟨rfl, hk1⟩; have sS := BO (sS.out.kept hk1); clear hk1 toq; clear d0 d1 df x0 x1 x2 x3 x4 x5 x6 x7 x8; obtain ⟨x0, x1, x2, x3, x4, x5, x6, x7, x8⟩ := aK (sS.out.blk 0 rfl); obtain ⟨d0, d1, df⟩ := aH (sS.out.blk 1 rfl))
   go_end0
   exact ⟨rfl, (Sat.setCk sS.out.swap _).swap.drop⟩
 ·have h1 : ¬ (n : Int) = 0 := by omega
  have h2 : 0 < n := by omega
  have h3 : (n : Int) > 0 := by omega
  have he : subs.isEmpty = false := by cases subs with | nil => simp at hn; omega | cons _ _ => rfl
  have HO := BO (show az c (.mk 3 col v w0 subs) = false by unfold az; simp only [PredT.op, PredT.col, PredT.v, PredT.w, PredT.l]; simp [he])
  rw [HO.out]
  clear HO hn
  cases b
  all_goals
   go_enter Tryz.func125, Tryz.ntmps125
   go_upto_region 1 with fail
   rw [← sR.out]
   clear sR
   generalize w.heap.size = bx at sS ⊢
   obtain ⟨x0, x1, x2, x3, x4, x5, x6, x7, x8⟩ := aK (sS.out.blk 0 rfl)
   obtain ⟨d0, d1, df⟩ := aH (sS.out.blk 1 rfl)
   clear he
   go_wp2_with fail
   go_end0
   first
    | exact ⟨rfl, (Sat.setCk sS.out.swap _).swap.drop⟩
    | exact ⟨rfl, (show (!((n : Int) == 0)) = true by simp; omega) ▸ (Sat.setCk sS.out.swap (!((n : Int) == 0))).swap.drop⟩
    | exact ⟨rfl, (show (!((n : Int) == 1)) = true by simp; omega) ▸ (Sat.setCk sS.out.swap (!((n : Int) == 1))).swap.drop⟩
theorem part_4 {B w : World} {D : PH} {l : List HP} {ck : Nat} {cv : Value} {b : Bool} {c : List Bool} (op col : Int) (hop : op = 4) (v w0 : Val) (la : Option Addr) (n lc : Nat) (subs : List PredT) (hn : n = subs.length) (hc : ∀ W, Kept (fun _ => False) w W → da W cv c) (h : Sat B D w (blk ck #[cv, .bool b] tCk :: l)) :
  Calls Tryz.prog 125 #[.pointer (some ⟨ck, 0, none⟩), .agg (PredE.cells ⟨op, col, v, w0, la, n, lc, subs⟩).toArray] w (de B D l ck cv (b || !az c (.mk op col v w0 subs))) := by
 subst hop
 obtain ⟨W1, hW1, hs1⟩ := Sat.hide (h.alloc (PredE.cells ⟨4, col, v, w0, la, n, lc, subs⟩).toArray tPr)
 have sW := BO (show Kept (fun _ => False) w W1 by rw [hW1]; exact (Kept.refl _ _).alloc _)
 have sR := BO hW1
 have sS := BO hs1
 have HC := BO hc
 clear h hW1 hs1 hc
 by_cases h0 : n = 0
 ·subst h0
  obtain rfl : subs = [] := List.length_eq_zero_iff.1 hn.symm
  have HO := BO (show az c (.mk 4 col v w0 []) = bE c col v by unfold az; simp only [PredT.op, PredT.col, PredT.v, PredT.w, PredT.l]; simp)
  rw [HO.out]
  clear HO hn
  cases b
  all_goals
   go_enter Tryz.func125, Tryz.ntmps125
   go_upto_region 1 with fail
   rw [← sR.out]
   clear sR
   generalize w.heap.size = bx at sS ⊢
   obtain ⟨x0, x1, x2, x3, x4, x5, x6, x7, x8⟩ := aK (sS.out.blk 0 rfl)
   obtain ⟨d0, d1, df⟩ := aH (sS.out.blk 1 rfl)
   have toq := BO (ix (w := W1) col v (sS.out.blk 1 rfl) (HC.out W1 sW.out))
   generalize bE c col v = rr at *
   go_wp2_with (go_at_call 165; refine toq.out.mono ?_; rintro e1 w1 ⟨rfl, hk1⟩; have sS := BO (sS.out.kept hk1); clear hk1 toq; clear d0 d1 df x0 x1 x2 x3 x4 x5 x6 x7 x8; obtain ⟨x0, x1, x2, x3, x4, x5, x6, x7, x8⟩ := aK (sS.out.blk 0 rfl); obtain ⟨d0, d1, df⟩ := aH (sS.out.blk 1 rfl))
   go_end0
   exact ⟨rfl, (Sat.setCk sS.out.swap _).swap.drop⟩
 ·have h1 : ¬ (n : Int) = 0 := by omega
  have h2 : 0 < n := by omega
  have h3 : (n : Int) > 0 := by omega
  have he : subs.isEmpty = false := by cases subs with | nil => simp at hn; omega | cons _ _ => rfl
  have HO := BO (show az c (.mk 4 col v w0 subs) = false by unfold az; simp only [PredT.op, PredT.col, PredT.v, PredT.w, PredT.l]; simp [he])
  rw [HO.out]
  clear HO hn
  cases b
  all_goals
   go_enter Tryz.func125, Tryz.ntmps125
   go_upto_region 1 with fail
   rw [← sR.out]
   clear sR
   generalize w.heap.size = bx at sS ⊢
   obtain ⟨x0, x1, x2, x3, x4, x5, x6, x7, x8⟩ := aK (sS.out.blk 0 rfl)
   obtain ⟨d0, d1, df⟩ := aH (sS.out.blk 1 rfl)
   clear he
   go_wp2_with fail
   go_end0
   first
    | exact ⟨rfl, (Sat.setCk sS.out.swap _).swap.drop⟩
    | exact ⟨rfl, (show (!((n : Int) == 0)) = true by simp; omega) ▸ (Sat.setCk sS.out.swap (!((n : Int) == 0))).swap.drop⟩
    | exact ⟨rfl, (show (!((n : Int) == 1)) = true by simp; omega) ▸ (Sat.setCk sS.out.swap (!((n : Int) == 1))).swap.drop⟩
theorem part_5 {B w : World} {D : PH} {l : List HP} {ck : Nat} {cv : Value} {b : Bool} {c : List Bool} (op col : Int) (hop : op = 5) (v w0 : Val) (la : Option Addr) (n lc : Nat) (subs : List PredT) (hn : n = subs.length) (hc : ∀ W, Kept (fun _ => False) w W → da W cv c) (h : Sat B D w (blk ck #[cv, .bool b] tCk :: l)) :
  Calls Tryz.prog 125 #[.pointer (some ⟨ck, 0, none⟩), .agg (PredE.cells ⟨op, col, v, w0, la, n, lc, subs⟩).toArray] w (de B D l ck cv (b || !az c (.mk op col v w0 subs))) := by
 subst hop
 obtain ⟨W1, hW1, hs1⟩ := Sat.hide (h.alloc (PredE.cells ⟨5, col, v, w0, la, n, lc, subs⟩).toArray tPr)
 have sW := BO (show Kept (fun _ => False) w W1 by rw [hW1]; exact (Kept.refl _ _).alloc _)
 have sR := BO hW1
 have sS := BO hs1
 have HC := BO hc
 clear h hW1 hs1 hc
 by_cases h0 : n = 0
 ·subst h0
  obtain rfl : subs = [] := List.length_eq_zero_iff.1 hn.symm
  have HO := BO (show az c (.mk 5 col v w0 []) = bE c col v by unfold az; simp only [PredT.op, PredT.col, PredT.v, PredT.w, PredT.l]; simp)
  rw [HO.out]
  clear HO hn
  cases b
  all_goals
   go_enter Tryz.func125, Tryz.ntmps125
   go_upto_region 1 with fail
   rw [← sR.out]
   clear sR
   generalize w.heap.size = bx at sS ⊢
   obtain ⟨x0, x1, x2, x3, x4, x5, x6, x7, x8⟩ := aK (sS.out.blk 0 rfl)
   obtain ⟨d0, d1, df⟩ := aH (sS.out.blk 1 rfl)
   have toq := BO (ix (w := W1) col v (sS.out.blk 1 rfl) (HC.out W1 sW.out))
   generalize bE c col v = rr at *
   go_wp2_with (go_at_call 165; refine toq.out.mono ?_; rintro e1 w1 ⟨rfl, hk1⟩; have sS := BO (sS.out.kept hk1); clear hk1 toq; clear d0 d1 df x0 x1 x2 x3 x4 x5 x6 x7 x8; obtain ⟨x0, x1, x2, x3, x4, x5, x6, x7, x8⟩ := aK (sS.out.blk 0 rfl); obtain ⟨d0, d1, df⟩ := aH (sS.out.blk 1 rfl))
   go_end0
   exact ⟨rfl, (Sat.setCk sS.out.swap _).swap.drop⟩
 ·have h1 : ¬ (n : Int) = 0 := by omega
  have h2 : 0 < n := by omega
  have h3 : (n : Int) > 0 := by omega
  have he : subs.isEmpty = false := by cases subs with | nil => simp at hn; omega | cons _ _ => rfl
  have HO := BO (show az c (.mk 5 col v w0 subs) = false by unfold az; simp only [PredT.op, PredT.col, PredT.v, PredT.w, PredT.l]; simp [he])
  rw [HO.out]
  clear HO hn
  cases b
  all_goals
   go_enter Tryz.func125, Tryz.ntmps125
   go_upto_region 1 with fail
   rw [← sR.out]
   clear sR
   generalize w.heap.size = bx at sS ⊢
   obtain ⟨x0, x1, x2, x3, x4, x5, x6, x7, x8⟩ := aK (sS.out.blk 0 rfl)
   obtain ⟨d0, d1, df⟩ := aH (sS.out.blk 1 rfl)
   clear he
   go_wp2_with fail
   go_end0
   first
    | exact ⟨rfl, (Sat.setCk sS.out.swap _).swap.drop⟩
    | exact ⟨rfl, (show (!((n : Int) == 0)) = true by simp; omega) ▸ (Sat.setCk sS.out.swap (!((n : Int) == 0))).swap.drop⟩
    | exact ⟨rfl, (show (!((n : Int) == 1)) = true by simp; omega) ▸ (Sat.setCk sS.out.swap (!((n : Int) == 1))).swap.drop⟩
theorem part_6 {B w : World} {D : PH} {l : List HP} {ck : Nat} {cv : Value} {b : Bool} {c : List Bool} (op col : Int) (hop : op = 6) (v w0 : Val) (la : Option Addr) (n lc : Nat) (subs : List PredT) (hn : n = subs.length) (hc : ∀ W, Kept (fun _ => False) w W → da W cv c) (h : Sat B D w (blk ck #[cv, .bool b] tCk :: l)) :
  Calls Tryz.prog 125 #[.pointer (some ⟨ck, 0, none⟩), .agg (PredE.cells ⟨op, col, v, w0, la, n, lc, subs⟩).toArray] w (de B D l ck cv (b || !az c (.mk op col v w0 subs))) := by
 subst hop
 obtain ⟨W1, hW1, hs1⟩ := Sat.hide (h.alloc (PredE.cells ⟨6, col, v, w0, la, n, lc, subs⟩).toArray tPr)
 have sW := BO (show Kept (fun _ => False) w W1 by rw [hW1]; exact (Kept.refl _ _).alloc _)
 have sR := BO hW1
 have sS := BO hs1
 have HC := BO hc
 clear h hW1 hs1 hc
 by_cases h0 : n = 0
 ·subst h0
  obtain rfl : subs = [] := List.length_eq_zero_iff.1 hn.symm
  have HO := BO (show az c (.mk 6 col v w0 []) = bE c col v by unfold az; simp only [PredT.op, PredT.col, PredT.v, PredT.w, PredT.l]; simp)
  rw [HO.out]
  clear HO hn
  cases b
  all_goals
   go_enter Tryz.func125, Tryz.ntmps125
   go_upto_region 1 with fail
   rw [← sR.out]
   clear sR
   generalize w.heap.size = bx at sS ⊢
   obtain ⟨x0, x1, x2, x3, x4, x5, x6, x7, x8⟩ := aK (sS.out.blk 0 rfl)
   obtain ⟨d0, d1, df⟩ := aH (sS.out.blk 1 rfl)
   have toq := BO (ix (w := W1) col v (sS.out.blk 1 rfl) (HC.out W1 sW.out))
   generalize bE c col v = rr at *
   go_wp2_with (go_at_call 165; refine toq.out.mono ?_; rintro e1 w1 ⟨rfl, hk1⟩; have sS := BO (sS.out.kept hk1); clear hk1 toq; clear d0 d1 df x0 x1 x2 x3 x4 x5 x6 x7 x8; obtain ⟨x0, x1, x2, x3, x4, x5, x6, x7, x8⟩ := aK (sS.out.blk 0 rfl); obtain ⟨d0, d1, df⟩ := aH (sS.out.blk 1 rfl))
   go_end0
   exact ⟨rfl, (Sat.setCk sS.out.swap _).swap.drop⟩
 ·have h1 : ¬ (n : Int) = 0 := by omega
  have h2 : 0 < n := by omega
  have h3 : (n : Int) > 0 := by omega
  have he : subs.isEmpty = false := by cases subs with | nil => simp at hn; omega | cons _ _ => rfl
  have HO := BO (show az c (.mk 6 col v w0 subs) = false by unfold az; simp only [PredT.op, PredT.col, PredT.v, PredT.w, PredT.l]; simp [he])
  rw [HO.out]
  clear HO hn
  cases b
  all_goals
   go_enter Tryz.func125, Tryz.ntmps125
   go_upto_region 1 with fail
   rw [← sR.out]
   clear sR
   generalize w.heap.size = bx at sS ⊢
   obtain ⟨x0, x1, x2, x3, x4, x5, x6, x7, x8⟩ := aK (sS.out.blk 0 rfl)
   obtain ⟨d0, d1, df⟩ := aH (sS.out.blk 1 rfl)
   clear he
   go_wp2_with fail
   go_end0
   first
    | exact ⟨rfl, (Sat.setCk sS.out.swap _).swap.drop⟩
    | exact ⟨rfl, (show (!((n : Int) == 0)) = true by simp; omega) ▸ (Sat.setCk sS.out.swap (!((n : Int) == 0))).swap.drop⟩
    | exact ⟨rfl, (show (!((n : Int) == 1)) = true by simp; omega) ▸ (Sat.setCk sS.out.swap (!((n : Int) == 1))).swap.drop⟩
theorem part_7 {B w : World} {D : PH} {l : List HP} {ck : Nat} {cv : Value} {b : Bool} {c : List Bool} (op col : Int) (hop : op = 7) (v w0 : Val) (la : Option Addr) (n lc : Nat) (subs : List PredT) (hn : n = subs.length) (hc : ∀ W, Kept (fun _ => False) w W → da W cv c) (h : Sat B D w (blk ck #[cv, .bool b] tCk :: l)) :
  Calls Tryz.prog 125 #[.pointer (some ⟨ck, 0, none⟩), .agg (PredE.cells ⟨op, col, v, w0, la, n, lc, subs⟩).toArray] w (de B D l ck cv (b || !az c (.mk op col v w0 subs))) := by
 subst hop
 obtain ⟨W1, hW1, hs1⟩ := Sat.hide (h.alloc (PredE.cells ⟨7, col, v, w0, la, n, lc, subs⟩).toArray tPr)
 have sW := BO (show Kept (fun _ => False) w W1 by rw [hW1]; exact (Kept.refl _ _).alloc _)
 have sR := BO hW1
 have sS := BO hs1
 have HC := BO hc
 clear h hW1 hs1 hc
 by_cases h0 : n = 0
 ·subst h0
  obtain rfl : subs = [] := List.length_eq_zero_iff.1 hn.symm
  have HO := BO (show az c (.mk 7 col v w0 []) = bE c col v by unfold az; simp only [PredT.op, PredT.col, PredT.v, PredT.w, PredT.l]; simp)
  rw [HO.out]
  clear HO hn
  cases b
  all_goals
   go_enter Tryz.func125, Tryz.ntmps125
   go_upto_region 1 with fail
   rw [← sR.out]
   clear sR
   generalize w.heap.size = bx at sS ⊢
   obtain ⟨x0, x1, x2, x3, x4, x5, x6, x7, x8⟩ := aK (sS.out.blk 0 rfl)
   obtain ⟨d0, d1, df⟩ := aH (sS.out.blk 1 rfl)
   have toq := BO (ix (w := W1) col v (sS.out.blk 1 rfl) (HC.out W1 sW.out))
   generalize bE c col v = rr at *
   go_wp2_with (go_at_call 165; refine toq.out.mono ?_; rintro e1 w1 ⟨rfl, hk1⟩; have sS := BO (sS.out.kept hk1); clear hk1 toq; clear d0 d1 df x0 x1 x2 x3 x4 x5 x6 x7 x8; obtain ⟨x0, x1, x2, x3, x4, x5, x6, x7, x8⟩ := aK (sS.out.blk 0 rfl); obtain ⟨d0, d1, df⟩ := aH (sS.out.blk 1 rfl))
   go_end0
   exact ⟨rfl, (Sat.setCk sS.out.swap _).swap.drop⟩
 ·have h1 : ¬ (n : Int) = 0 := by omega
  have h2 : 0 < n := by omega
  have h3 : (n : Int) > 0 := by omega
  have he : subs.isEmpty = false := by cases subs with | nil => simp at hn; omega | cons _ _ => rfl
  have HO := BO (show az c (.mk 7 col v w0 subs) = false by unfold az; simp only [PredT.op, PredT.col, PredT.v, PredT.w, PredT.l]; simp [he])
  rw [HO.out]
  clear HO hn
  cases b
  all_goals
   go_enter Tryz.func125, Tryz.ntmps125
   go_upto_region 1 with fail
   rw [← sR.out]
   clear sR
   generalize w.heap.size = bx at sS ⊢
   obtain ⟨x0, x1, x2, x3, x4, x5, x6, x7, x8⟩ := aK (sS.out.blk 0 rfl)
   obtain ⟨d0, d1, df⟩ := aH (sS.out.blk 1 rfl)
   clear he
   go_wp2_with fail
   go_end0
   first
    | exact ⟨rfl, (Sat.setCk sS.out.swap _).swap.drop⟩
    | exact ⟨rfl, (show (!((n : Int) == 0)) = true by simp; omega) ▸ (Sat.setCk sS.out.swap (!((n : Int) == 0))).swap.drop⟩
    | exact ⟨rfl, (show (!((n : Int) == 1)) = true by simp; omega) ▸ (Sat.setCk sS.out.swap (!((n : Int) == 1))).swap.drop⟩
theorem part_8 {B w : World} {D : PH} {l : List HP} {ck : Nat} {cv : Value} {b : Bool} {c : List Bool} (op col : Int) (hop : op = 8) (v w0 : Val) (la : Option Addr) (n lc : Nat) (subs : List PredT) (hn : n = subs.length) (hc : ∀ W, Kept (fun _ => False) w W → da W cv c) (h : Sat B D w (blk ck #[cv, .bool b] tCk :: l)) :
  Calls Tryz.prog 125 #[.pointer (some ⟨ck, 0, none⟩), .agg (PredE.cells ⟨op, col, v, w0, la, n, lc, subs⟩).toArray] w (de B D l ck cv (b || !az c (.mk op col v w0 subs))) := by
 subst hop
 obtain ⟨W1, hW1, hs1⟩ := Sat.hide (h.alloc (PredE.cells ⟨8, col, v, w0, la, n, lc, subs⟩).toArray tPr)
 have sW := BO (show Kept (fun _ => False) w W1 by rw [hW1]; exact (Kept.refl _ _).alloc _)
 have sR := BO hW1
 have sS := BO hs1
 have HC := BO hc
 clear h hW1 hs1 hc
 by_cases h0 : n = 0
 ·subst h0
  obtain rfl : subs = [] := List.length_eq_zero_iff.1 hn.symm
  have HO := BO (show az c (.mk 8 col v w0 []) = bE c col v by unfold az; simp only [PredT.op, PredT.col, PredT.v, PredT.w, PredT.l]; simp)
  rw [HO.out]
  clear HO hn
  cases b
  all_goals
   go_enter Tryz.func125, Tryz.ntmps125
   go_upto_region 1 with fail
   rw [← sR.out]
   clear sR
   generalize w.heap.size = bx at sS ⊢
   obtain ⟨x0, x1, x2, x3, x4, x5, x6, x7, x8⟩ := aK (sS.out.blk 0 rfl)
   obtain ⟨d0, d1, df⟩ := aH (sS.out.blk 1 rfl)
   have toq := BO (ix (w := W1) col v (sS.out.blk 1 rfl) (HC.out W1 sW.out))
   generalize bE c col v = rr at *
   go_wp2_with (go_at_call 165; refine toq.out.mono ?_; rintro e1 w1 ⟨rfl, hk1⟩; have sS := BO (sS.out.kept hk1); clear hk1 toq; clear d0 d1 df x0 x1 x2 x3 x4 x5 x6 x7 x8; obtain ⟨x0, x1, x2, x3, x4, x5, x6, x7, x8⟩ := aK (sS.out.blk 0 rfl); obtain ⟨d0, d1, df⟩ := aH (sS.out.blk 1 rfl))
   go_end0
   exact ⟨rfl, (Sat.setCk sS.out.swap _).swap.drop⟩
 ·have h1 : ¬ (n : Int) = 0 := by omega
  have h2 : 0 < n := by omega
  have h3 : (n : Int) > 0 := by omega
  have he : subs.isEmpty = false := by cases subs with | nil => simp at hn; omega | cons _ _ => rfl
  have HO := BO (show az c (.mk 8 col v w0 subs) = false by unfold az; simp only [PredT.op, PredT.col, PredT.v, PredT.w, PredT.l]; simp [he])
  rw [HO.out]
  clear HO hn
  cases b
  all_goals
   go_enter Tryz.func125, Tryz.ntmps125
   go_upto_region 1 with fail
   rw [← sR.out]
   clear sR
   generalize w.heap.size = bx at sS ⊢
   obtain ⟨x0, x1, x2, x3, x4, x5, x6, x7, x8⟩ := aK (sS.out.blk 0 rfl)
   obtain ⟨d0, d1, df⟩ := aH (sS.out.blk 1 rfl)
   clear he
   go_wp2_with fail
   go_end0
   first
    | exact ⟨rfl, (Sat.setCk sS.out.swap _).swap.drop⟩
    | exact ⟨rfl, (show (!((n : Int) == 0)) = true by simp; omega) ▸ (Sat.setCk sS.out.swap (!((n : Int) == 0))).swap.drop⟩
    | exact ⟨rfl, (show (!((n : Int) == 1)) = true by simp; omega) ▸ (Sat.setCk sS.out.swap (!((n : Int) == 1))).swap.drop⟩
theorem part_9 {B w : World} {D : PH} {l : List HP} {ck : Nat} {cv : Value} {b : Bool} {c : List Bool} (op col : Int) (hop : op = 9) (v w0 : Val) (la : Option Addr) (n lc : Nat) (subs : List PredT) (hn : n = subs.length) (hc : ∀ W, Kept (fun _ => False) w W → da W cv c) (h : Sat B D w (blk ck #[cv, .bool b] tCk :: l)) :
  Calls Tryz.prog 125 #[.pointer (some ⟨ck, 0, none⟩), .agg (PredE.cells ⟨op, col, v, w0, la, n, lc, subs⟩).toArray] w (de B D l ck cv (b || !az c (.mk op col v w0 subs))) := by
 subst hop
 obtain ⟨W1, hW1, hs1⟩ := Sat.hide (h.alloc (PredE.cells ⟨9, col, v, w0, la, n, lc, subs⟩).toArray tPr)
 have sW := BO (show Kept (fun _ => False) w W1 by rw [hW1]; exact (Kept.refl _ _).alloc _)
 have sR := BO hW1
 have sS := BO hs1
 have HC := BO hc
 clear h hW1 hs1 hc
 by_cases h0 : n = 0
 ·subst h0
  obtain rfl : subs = [] := List.length_eq_zero_iff.1 hn.symm
  cases hv : bE c col v
  ·have HV := BO hv
   have HO := BO (show az c (.mk 9 col v w0 []) = false by unfold az; simp only [PredT.op, PredT.col, PredT.v, PredT.w, PredT.l]; simp [hv])
   rw [HO.out]
   clear HO hn
   cases b
   all_goals
    go_enter Tryz.func125, Tryz.ntmps125
    go_upto_region 1 with fail
    rw [← sR.out]
    clear sR
    generalize w.heap.size = bx at sS ⊢
    obtain ⟨x0, x1, x2, x3, x4, x5, x6, x7, x8⟩ := aK (sS.out.blk 0 rfl)
    obtain ⟨d0, d1, df⟩ := aH (sS.out.blk 1 rfl)
    clear hv
    have toq := BO (ix (w := W1) col v (sS.out.blk 1 rfl) (HC.out W1 sW.out))
    rw [HV.out] at toq
    go_wp2_with (go_at_call 165; refine toq.out.mono ?_; rintro e1 w1 ⟨rfl, hk1⟩; have sS := BO (sS.out.kept hk1); clear hk1 toq; clear d0 d1 df x0 x1 x2 x3 x4 x5 x6 x7 x8; obtain ⟨x0, x1, x2, x3, x4, x5, x6, x7, x8⟩ := aK (sS.out.blk 0 rfl); obtain ⟨d0, d1, df⟩ := aH (sS.out.blk 1 rfl))
    go_end0
    exact ⟨rfl, (Sat.setCk sS.out.swap _).swap.drop⟩
  ·have HV := BO hv
   obtain ⟨rr, hrr⟩ : ∃ rr, bE c col w0 = rr := ⟨_, rfl⟩
   have tl := BO hrr
   have HO := BO (show az c (.mk 9 col v w0 []) = rr by unfold az; simp only [PredT.op, PredT.col, PredT.v, PredT.w, PredT.l]; simp [hv, hrr])
   rw [HO.out]
   clear HO hn
   cases b
   all_goals
    go_enter Tryz.func125, Tryz.ntmps125
    go_upto_region 1 with fail
    rw [← sR.out]
    clear sR
    generalize w.heap.size = bx at sS ⊢
    obtain ⟨x0, x1, x2, x3, x4, x5, x6, x7, x8⟩ := aK (sS.out.blk 0 rfl)
    obtain ⟨d0, d1, df⟩ := aH (sS.out.blk 1 rfl)
    clear hv hrr
    have toq := BO (ix (w := W1) col v (sS.out.blk 1 rfl) (HC.out W1 sW.out))
    rw [HV.out] at toq
    go_wp2_with (first | (go_at_call 165; refine toq.out.mono ?_; rintro e1 w1 ⟨rfl, hk1⟩; have sW := BO (sW.out.trans hk1 (fun _ h => h.elim)); have sS := BO (sS.out.kept hk1); clear hk1 toq; clear d0 d1 df x0 x1 x2 x3 x4 x5 x6 x7 x8; obtain ⟨x0, x1, x2, x3, x4, x5, x6, x7, x8⟩ := aK (sS.out.blk 0 rfl); obtain ⟨d0, d1, df⟩ := aH (sS.out.blk 1 rfl); have ye := BO (ix (w := w1) col w0 (sS.out.blk 1 rfl) (HC.out w1 sW.out)); rw [tl.out] at ye) | (go_at_call 165; refine ye.out.mono ?_; rintro e2 w2 ⟨rfl, hk2⟩; have sS := BO (sS.out.kept hk2); clear hk2 ye; clear d0 d1 df x0 x1 x2 x3 x4 x5 x6 x7 x8; obtain ⟨x0, x1, x2, x3, x4, x5, x6, x7, x8⟩ := aK (sS.out.blk 0 rfl); obtain ⟨d0, d1, df⟩ := aH (sS.out.blk 1 rfl)))
    go_end0
    exact ⟨rfl, (Sat.setCk sS.out.swap _).swap.drop⟩
 ·have h1 : ¬ (n : Int) = 0 := by omega
  have h2 : 0 < n := by omega
  have h3 : (n : Int) > 0 := by omega
  have he : subs.isEmpty = false := by cases subs with | nil => simp at hn; omega | cons _ _ => rfl
  have HO := BO (show az c (.mk 9 col v w0 subs) = false by unfold az; simp only [PredT.op, PredT.col, PredT.v, PredT.w, PredT.l]; simp [he])
  rw [HO.out]
  clear HO hn
  cases b
  all_goals
   go_enter Tryz.func125, Tryz.ntmps125
   go_upto_region 1 with fail
   rw [← sR.out]
   clear sR
   generalize w.heap.size = bx at sS ⊢
   obtain ⟨x0, x1, x2, x3, x4, x5, x6, x7, x8⟩ := aK (sS.out.blk 0 rfl)
   obtain ⟨d0, d1, df⟩ := aH (sS.out.blk 1 rfl)
   clear he
   go_wp2_with fail
   go_end0
   first
    | exact ⟨rfl, (Sat.setCk sS.out.swap _).swap.drop⟩
    | exact ⟨rfl, (show (!((n : Int) == 0)) = true by simp; omega) ▸ (Sat.setCk sS.out.swap (!((n : Int) == 0))).swap.drop⟩
    | exact ⟨rfl, (show (!((n : Int) == 1)) = true by simp; omega) ▸ (Sat.setCk sS.out.swap (!((n : Int) == 1))).swap.drop⟩
theorem part_10 {B w : World} {D : PH} {l : List HP} {ck : Nat} {cv : Value} {b : Bool} {c : List Bool} (op col : Int) (hop : op = 10) (v w0 : Val) (la : Option Addr) (n lc : Nat) (subs : List PredT) (hn : n = subs.length) (hc : ∀ W, Kept (fun _ => False) w W → da W cv c) (h : Sat B D w (blk ck #[cv, .bool b] tCk :: l)) :
  Calls Tryz.prog 125 #[.pointer (some ⟨ck, 0, none⟩), .agg (PredE.cells ⟨op, col, v, w0, la, n, lc, subs⟩).toArray] w (de B D l ck cv (b || !az c (.mk op col v w0 subs))) := by
 subst hop
 obtain ⟨W1, hW1, hs1⟩ := Sat.hide (h.alloc (PredE.cells ⟨10, col, v, w0, la, n, lc, subs⟩).toArray tPr)
 have sW := BO (show Kept (fun _ => False) w W1 by rw [hW1]; exact (Kept.refl _ _).alloc _)
 have sR := BO hW1
 have sS := BO hs1
 have HC := BO hc
 clear h hW1 hs1 hc
 by_cases h0 : n = 1
 ·subst h0
  have HO := BO (show az c (.mk 10 col v w0 subs) = true by unfold az; simp only [PredT.op, PredT.col, PredT.v, PredT.w, PredT.l]; simp [← hn])
  rw [HO.out]
  clear HO hn
  cases b
  all_goals
   go_enter Tryz.func125, Tryz.ntmps125
   go_upto_region 1 with fail
   rw [← sR.out]
   clear sR
   generalize w.heap.size = bx at sS ⊢
   obtain ⟨x0, x1, x2, x3, x4, x5, x6, x7, x8⟩ := aK (sS.out.blk 0 rfl)
   obtain ⟨d0, d1, df⟩ := aH (sS.out.blk 1 rfl)
   go_wp2_with fail
   go_end0
   first
    | exact ⟨rfl, (Sat.setCk sS.out.swap _).swap.drop⟩
    | exact ⟨rfl, (show (!((n : Int) == 0)) = true by simp; omega) ▸ (Sat.setCk sS.out.swap (!((n : Int) == 0))).swap.drop⟩
    | exact ⟨rfl, (show (!((n : Int) == 1)) = true by simp; omega) ▸ (Sat.setCk sS.out.swap (!((n : Int) == 1))).swap.drop⟩
 ·have h1 : ¬ (n : Int) = 1 := by omega
  have HO := BO (show az c (.mk 10 col v w0 subs) = false by unfold az; simp only [PredT.op, PredT.col, PredT.v, PredT.w, PredT.l]; simp [← hn, h0])
  rw [HO.out]
  clear HO hn
  cases b
  all_goals
   go_enter Tryz.func125, Tryz.ntmps125
   go_upto_region 1 with fail
   rw [← sR.out]
   clear sR
   generalize w.heap.size = bx at sS ⊢
   obtain ⟨x0, x1, x2, x3, x4, x5, x6, x7, x8⟩ := aK (sS.out.blk 0 rfl)
   obtain ⟨d0, d1, df⟩ := aH (sS.out.blk 1 rfl)
   go_wp2_with fail
   go_end0
   first
    | exact ⟨rfl, (Sat.setCk sS.out.swap _).swap.drop⟩
    | exact ⟨rfl, (show (!((n : Int) == 0)) = true by simp; omega) ▸ (Sat.setCk sS.out.swap (!((n : Int) == 0))).swap.drop⟩
    | exact ⟨rfl, (show (!((n : Int) == 1)) = true by simp; omega) ▸ (Sat.setCk sS.out.swap (!((n : Int) == 1))).swap.drop⟩
theorem part_11 {B w : World} {D : PH} {l : List HP} {ck : Nat} {cv : Value} {b : Bool} {c : List Bool} (op col : Int) (hop : op = 11) (v w0 : Val) (la : Option Addr) (n lc : Nat) (subs : List PredT) (hn : n = subs.length) (hc : ∀ W, Kept (fun _ => False) w W → da W cv c) (h : Sat B D w (blk ck #[cv, .bool b] tCk :: l)) :
  Calls Tryz.prog 125 #[.pointer (some ⟨ck, 0, none⟩), .agg (PredE.cells ⟨op, col, v, w0, la, n, lc, subs⟩).toArray] w (de B D l ck cv (b || !az c (.mk op col v w0 subs))) := by
 subst hop
 obtain ⟨W1, hW1, hs1⟩ := Sat.hide (h.alloc (PredE.cells ⟨11, col, v, w0, la, n, lc, subs⟩).toArray tPr)
 have sW := BO (show Kept (fun _ => False) w W1 by rw [hW1]; exact (Kept.refl _ _).alloc _)
 have sR := BO hW1
 have sS := BO hs1
 have HC := BO hc
 clear h hW1 hs1 hc
 by_cases h0 : n = 0
 ·subst h0
  obtain rfl : subs = [] := List.length_eq_zero_iff.1 hn.symm
  have HO := BO (show az c (.mk 11 col v w0 []) = false by unfold az; simp only [PredT.op, PredT.col, PredT.v, PredT.w, PredT.l]; simp)
  rw [HO.out]
  clear HO hn
  cases b
  all_goals
   go_enter Tryz.func125, Tryz.ntmps125
   go_upto_region 1 with fail
   rw [← sR.out]
   clear sR
   generalize w.heap.size = bx at sS ⊢
   obtain ⟨x0, x1, x2, x3, x4, x5, x6, x7, x8⟩ := aK (sS.out.blk 0 rfl)
   obtain ⟨d0, d1, df⟩ := aH (sS.out.blk 1 rfl)
   go_wp2_with fail
   go_end0
   first
    | exact ⟨rfl, (Sat.setCk sS.out.swap _).swap.drop⟩
    | exact ⟨rfl, (show (!((n : Int) == 0)) = true by simp; omega) ▸ (Sat.setCk sS.out.swap (!((n : Int) == 0))).swap.drop⟩
    | exact ⟨rfl, (show (!((n : Int) == 1)) = true by simp; omega) ▸ (Sat.setCk sS.out.swap (!((n : Int) == 1))).swap.drop⟩
 ·have h1 : ¬ (n : Int) = 0 := by omega
  have h2 : 0 < n := by omega
  have h3 : (n : Int) > 0 := by omega
  have he : subs.isEmpty = false := by cases subs with | nil => simp at hn; omega | cons _ _ => rfl
  have HO := BO (show az c (.mk 11 col v w0 subs) = true by unfold az; simp only [PredT.op, PredT.col, PredT.v, PredT.w, PredT.l]; simp [← hn]; omega)
  rw [HO.out]
  clear HO hn
  cases b
  all_goals
   go_enter Tryz.func125, Tryz.ntmps125
   go_upto_region 1 with fail
   rw [← sR.out]
   clear sR
   generalize w.heap.size = bx at sS ⊢
   obtain ⟨x0, x1, x2, x3, x4, x5, x6, x7, x8⟩ := aK (sS.out.blk 0 rfl)
   obtain ⟨d0, d1, df⟩ := aH (sS.out.blk 1 rfl)
   clear he
   go_wp2_with fail
   go_end0
   first
    | exact ⟨rfl, (Sat.setCk sS.out.swap _).swap.drop⟩
    | exact ⟨rfl, (show (!((n : Int) == 0)) = true by simp; omega) ▸ (Sat.setCk sS.out.swap (!((n : Int) == 0))).swap.drop⟩
    | exact ⟨rfl, (show (!((n : Int) == 1)) = true by simp; omega) ▸ (Sat.setCk sS.out.swap (!((n : Int) == 1))).swap.drop⟩
theorem part_12 {B w : World} {D : PH} {l : List HP} {ck : Nat} {cv : Value} {b : Bool} {c : List Bool} (op col : Int) (hop : op = 12) (v w0 : Val) (la : Option Addr) (n lc : Nat) (subs : List PredT) (hn : n = subs.length) (hc : ∀ W, Kept (fun _ => False) w W → da W cv c) (h : Sat B D w (blk ck #[cv, .bool b] tCk :: l)) :
  Calls Tryz.prog 125 #[.pointer (some ⟨ck, 0, none⟩), .agg (PredE.cells ⟨op, col, v, w0, la, n, lc, subs⟩).toArray] w (de B D l ck cv (b || !az c (.mk op col v w0 subs))) := by
 subst hop
 obtain ⟨W1, hW1, hs1⟩ := Sat.hide (h.alloc (PredE.cells ⟨12, col, v, w0, la, n, lc, subs⟩).toArray tPr)
 have sW := BO (show Kept (fun _ => False) w W1 by rw [hW1]; exact (Kept.refl _ _).alloc _)
 have sR := BO hW1
 have sS := BO hs1
 have HC := BO hc
 clear h hW1 hs1 hc
 by_cases h0 : n = 0
 ·subst h0
  obtain rfl : subs = [] := List.length_eq_zero_iff.1 hn.symm
  have HO := BO (show az c (.mk 12 col v w0 []) = false by unfold az; simp only [PredT.op, PredT.col, PredT.v, PredT.w, PredT.l]; simp)
  rw [HO.out]
  clear HO hn
  cases b
  all_goals
   go_enter Tryz.func125, Tryz.ntmps125
   go_upto_region 1 with fail
   rw [← sR.out]
   clear sR
   generalize w.heap.size = bx at sS ⊢
   obtain ⟨x0, x1, x2, x3, x4, x5, x6, x7, x8⟩ := aK (sS.out.blk 0 rfl)
   obtain ⟨d0, d1, df⟩ := aH (sS.out.blk 1 rfl)
   go_wp2_with fail
   go_end0
   first
    | exact ⟨rfl, (Sat.setCk sS.out.swap _).swap.drop⟩
    | exact ⟨rfl, (show (!((n : Int) == 0)) = true by simp; omega) ▸ (Sat.setCk sS.out.swap (!((n : Int) == 0))).swap.drop⟩
    | exact ⟨rfl, (show (!((n : Int) == 1)) = true by simp; omega) ▸ (Sat.setCk sS.out.swap (!((n : Int) == 1))).swap.drop⟩
 ·have h1 : ¬ (n : Int) = 0 := by omega
  have h2 : 0 < n := by omega
  have h3 : (n : Int) > 0 := by omega
  have he : subs.isEmpty = false := by cases subs with | nil => simp at hn; omega | cons _ _ => rfl
  have HO := BO (show az c (.mk 12 col v w0 subs) = true by unfold az; simp only [PredT.op, PredT.col, PredT.v, PredT.w, PredT.l]; simp [← hn]; omega)
  rw [HO.out]
  clear HO hn
  cases b
  all_goals
   go_enter Tryz.func125, Tryz.ntmps125
   go_upto_region 1 with fail
   rw [← sR.out]
   clear sR
   generalize w.heap.size = bx at sS ⊢
   obtain ⟨x0, x1, x2, x3, x4, x5, x6, x7, x8⟩ := aK (sS.out.blk 0 rfl)
   obtain ⟨d0, d1, df⟩ := aH (sS.out.blk 1 rfl)
   clear he
   go_wp2_with fail
   go_end0
   first
    | exact ⟨rfl, (Sat.setCk sS.out.swap _).swap.drop⟩
    | exact ⟨rfl, (show (!((n : Int) == 0)) = true by simp; omega) ▸ (Sat.setCk sS.out.swap (!((n : Int) == 0))).swap.drop⟩
    | exact ⟨rfl, (show (!((n : Int) == 1)) = true by simp; omega) ▸ (Sat.setCk sS.out.swap (!((n : Int) == 1))).swap.drop⟩
theorem part_no {B w : World} {D : PH} {l : List HP} {ck : Nat} {cv : Value} {b : Bool} {c : List Bool} (op col : Int) (v w0 : Val) (la : Option Addr) (n lc : Nat) (subs : List PredT) (_hn : n = subs.length) (hop : ¬ (1 ≤ op ∧ op ≤ 12)) (hc : ∀ W, Kept (fun _ => False) w W → da W cv c) (h : Sat B D w (blk ck #[cv, .bool b] tCk :: l)) :
  Calls Tryz.prog 125 #[.pointer (some ⟨ck, 0, none⟩), .agg (PredE.cells ⟨op, col, v, w0, la, n, lc, subs⟩).toArray] w (de B D l ck cv (b || !az c (.mk op col v w0 subs))) := by
 obtain ⟨W1, hW1, hs1⟩ := Sat.hide (h.alloc (PredE.cells ⟨op, col, v, w0, la, n, lc, subs⟩).toArray tPr)
 have sW := BO (show Kept (fun _ => False) w W1 by rw [hW1]; exact (Kept.refl _ _).alloc _)
 have sR := BO hW1
 have sS := BO hs1
 have HC := BO hc
 clear h hW1 hs1 hc
 have n1 : ¬ op = 1 := by omega
 have n2 : ¬ op = 2 := by omega
 have n3 : ¬ op = 3 := by omega
 have n4 : ¬ op = 4 := by omega
 have n5 : ¬ op = 5 := by omega
 have n6 : ¬ op = 6 := by omega
 have n7 : ¬ op = 7 := by omega
 have n8 : ¬ op = 8 := by omega
 have n9 : ¬ op = 9 := by omega
 have n10 : ¬ op = 10 := by omega
 have n11 : ¬ op = 11 := by omega
 have n12 : ¬ op = 12 := by omega
 have HO := BO (show az c (.mk op col v w0 subs) = false by unfold az; rw [if_neg (show ¬ ((PredT.mk op col v w0 subs).op = 1 ∨ (PredT.mk op col v w0 subs).op = 2) by show ¬ (op = 1 ∨ op = 2); omega), if_neg (show ¬ (3 ≤ (PredT.mk op col v w0 subs).op ∧ (PredT.mk op col v w0 subs).op ≤ 8) by show ¬ (3 ≤ op ∧ op ≤ 8); omega), if_neg (show ¬ ((PredT.mk op col v w0 subs).op = 9) by show ¬ (op = 9); omega), if_neg (show ¬ ((PredT.mk op col v w0 subs).op = 10) by show ¬ (op = 10); omega), if_neg (show ¬ ((PredT.mk op col v w0 subs).op = 11 ∨ (PredT.mk op col v w0 subs).op = 12) by show ¬ (op = 11 ∨ op = 12); omega)])
 rw [HO.out]
 clear HO _hn
 cases b
 all_goals
  go_enter Tryz.func125, Tryz.ntmps125
  go_upto_region 1 with fail
  rw [← sR.out]
  clear sR
  generalize w.heap.size = bx at sS ⊢
  obtain ⟨x0, x1, x2, x3, x4, x5, x6, x7, x8⟩ := aK (sS.out.blk 0 rfl)
  obtain ⟨d0, d1, df⟩ := aH (sS.out.blk 1 rfl)
  go_wp2_with fail
  go_end0
  first
   | exact ⟨rfl, (Sat.setCk sS.out.swap _).swap.drop⟩
   | exact ⟨rfl, (show (!((n : Int) == 0)) = true by simp; omega) ▸ (Sat.setCk sS.out.swap (!((n : Int) == 0))).swap.drop⟩
   | exact ⟨rfl, (show (!((n : Int) == 1)) = true by simp; omega) ▸ (Sat.setCk sS.out.swap (!((n : Int) == 1))).swap.drop⟩
theorem part_ok {B w : World} {D : PH} {l : List HP} {ck : Nat} {cv : Value} {b : Bool} {c : List Bool} (x : PredE) (hn : x.ln = x.subs.length) (hc : ∀ W, Kept (fun _ => False) w W → da W cv c) (h : Sat B D w (blk ck #[cv, .bool b] tCk :: l)) :
  Calls Tryz.prog 125 #[.pointer (some ⟨ck, 0, none⟩), .agg x.cells.toArray] w (de B D l ck cv (b || !az c x.p)) := by
 obtain ⟨op, col, v, w0, la, n, lc, subs⟩ := x
 by_cases hop : 1 ≤ op ∧ op ≤ 12
 ·have h12 : op = 1 ∨ op = 2 ∨ op = 3 ∨ op = 4 ∨ op = 5 ∨ op = 6 ∨ op = 7 ∨ op = 8 ∨ op = 9 ∨ op = 10 ∨ op = 11 ∨ op = 12 := by omega
  rcases h12 with rfl | rfl | rfl | rfl | rfl | rfl | rfl | rfl | rfl | rfl | rfl | rfl
  ·exact part_1 _ col rfl v w0 la n lc subs hn hc h
  ·exact part_2 _ col rfl v w0 la n lc subs hn hc h
  ·exact part_3 _ col rfl v w0 la n lc subs hn hc h
  ·exact part_4 _ col rfl v w0 la n lc subs hn hc h
  ·exact part_5 _ col rfl v w0 la n lc subs hn hc h
  ·exact part_6 _ col rfl v w0 la n lc subs hn hc h
  ·exact part_7 _ col rfl v w0 la n lc subs hn hc h
  ·exact part_8 _ col rfl v w0 la n lc subs hn hc h
  ·exact part_9 _ col rfl v w0 la n lc subs hn hc h
  ·exact part_10 _ col rfl v w0 la n lc subs hn hc h
  ·exact part_11 _ col rfl v w0 la n lc subs hn hc h
  ·exact part_12 _ col rfl v w0 la n lc subs hn hc h
 ·exact part_no op col v w0 la n lc subs hn hop hc h
end Go.Proofs.YtgljdkjepdknnaaGreatDoor
