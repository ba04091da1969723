/- A table in the place of rows (locks.Escalate). -/
import Derived.Test.YtgljdkjepdknnaaGreatDoorMT28
import Derived.Test.YtgljdkjepdknnaaGreatDoorMT26
import Derived.Test.YtgljdkjepdknnaaGreatDoorMT23
import Derived.Test.YtgljdkjepdknnaaGreatDoorMT21
set_option maxHeartbeats 64000000
namespace Go.Proofs.YtgljdkjepdknnaaGreatDoor
open Go.ChangeShapes Go.WideShapes Go.ChangeAt Go.RowKit
set_option maxRecDepth 100000
set_option linter.unusedSimpArgs false
abbrev eD (table md : Int) : ClmE := ⟨1, table, md, ⟨false, 0, ⟨#[]⟩⟩, none, 0, 0, [], pr0⟩
def eV (rs : List Clm) : Int := if rs.any (fun c => decide (c.mode ≠ 3)) then 6 else 3
theorem oC (table : Int) (rs : List Clm) : (eD table (eV rs)).c = cM table rs := rfl
theorem jx (D : PH) (table md : Int) : ClOk D (eD table md) := ⟨(l4 D).1, gb D⟩
theorem pu (N : Nat) (table md : Int) : ClmSm N (eD table md).c := ⟨Nat.zero_le _, fun r hr => (by cases hr), .mk _ _ _ _ [] (Nat.zero_le _) (fun q hq => (by cases hq))⟩
def em (table : Int) (l : List Clm) (j : Nat) : List Clm := (l.take j).filter (bm table)
theorem oF {table : Int} {l : List Clm} {j : Nat} {c : Clm} (hx : l[j]? = some c) (h : bm table c = true) : em table l (j + 1) = em table l j ++ [c] := by
 unfold em
 rw [List.take_add_one, hx, List.filter_append]
 simp [h]
theorem qj {table : Int} {l : List Clm} {j : Nat} {c : Clm} (hx : l[j]? = some c) (h : bm table c = false) : em table l (j + 1) = em table l j := by
 unfold em
 rw [List.take_add_one, hx, List.filter_append]
 simp [h]
theorem nZ (table : Int) (l : List Clm) (j : Nat) : (em table l j).length ≤ j := by
 unfold em
 exact Nat.le_trans (List.length_filter_le _ _) (by rw [List.length_take]; omega)
theorem sD {rs : List Clm} {c : Clm} (h : c.mode = 3) : eV (rs ++ [c]) = eV rs := by unfold eV; rw [List.any_append]; simp [h]
theorem sG {rs : List Clm} {c : Clm} (h : c.mode ≠ 3) : eV (rs ++ [c]) = 6 := by unfold eV; rw [List.any_append]; simp [h]
theorem Sat.setMd {B w : World} {D : PH} {l : List HP} {b : Nat} {t m : Int} (hs : Sat B D w (Proofs.YtgljdkjepdknnaaGreatDoor.blk b (eD t m).cells.toArray tCl :: l)) : Sat B D (w.setCell ⟨b, 2, none⟩ (.int .i64 6)) (Proofs.YtgljdkjepdknnaaGreatDoor.blk b (eD t 6).cells.toArray tCl :: l) := hs.set 2 (.int .i64 6)
theorem kH (w : World) (t : Int) : (Instr.build tCl #[(0, .int .i64 1), (1, .int .i64 t), (2, .int .i64 3)]).run Tryz.prog w = .ok (.agg (eD t 3).cells.toArray) w := run_build w _ _ _ (by kernel_rfl)
theorem fp {w : World} {o : Oper} {a : Act} {ops : Array Oper} {rest : List Oper} {Q : Exit → Act → World → Prop} (hgd : o.guard = none) (x0 x1 x2 : Operand) (ho : o.op = .build tCl #[(0, x0), (1, x1), (2, x2)]) (t : Int) (h0 : a.eval x0 = .int .i64 1) (h1 : a.eval x1 = .int .i64 t) (h2 : a.eval x2 = .int .i64 3)
  (h : wpList Tryz.prog ops Q rest (a.put o.dst (.agg (eD t 3).cells.toArray)) w) : wpList Tryz.prog ops Q (o :: rest) a w :=
 wpList_plain hgd fun _ hK => by
  have hrun := kH w t
  unfold Oper.wp execOp
  simp only [ho, List.map_toArray, List.map_cons, List.map_nil, h0, h1, h2, Sem.run_bind, Sem.run_pure, Result.andThen_ok, hrun]
  exact hK _ _ h
theorem r8 {B : World} {D : PH} {l : List HP} {b : Nat} {table : Int} (i : Nat) (hi : l[i]? = some (blk b #[.int .i64 table] 3)) :
  gu B D l 50 #[.pointer (some ⟨b, 0, none⟩)] (bm table) := by
 intro x hx W X hX
 have h2 := hX.blk (X.length + i) (by rw [List.getElem?_append_right (by omega), Nat.add_sub_cancel_left, hi])
 obtain ⟨W1, hW1, hk1, hbx, hb1⟩ := bQ h2 x.cells.toArray tCl
 have sR := BO hW1
 have sW := BO hk1
 have tu := BO hbx
 obtain ⟨d0, _⟩ := aM hb1
 clear h2 hX hW1 hk1 hbx hb1
 show Calls Tryz.prog 50 #[.agg x.cells.toArray, .pointer (some ⟨b, 0, none⟩)] W fun e W' => e = .returned (.bool (decide (x.kind = 2) && decide (x.table = table))) ∧ _
 by_cases h1 : x.kind = 2
 ·by_cases h3 : x.table = table
  ·rw [decide_eq_true h1, decide_eq_true h3]
   go_enter Tryz.func50, Tryz.ntmps50
   go_upto_region 1 with fail
   rw [← sR.out]
   clear sR
   generalize W.heap.size = bx at tu ⊢
   obtain ⟨x0, x1, x3, x4, x5⟩ := aY tu.out
   rw [h1] at x0
   rw [h3] at x1
   clear h1 h3
   go_wp2_with fail
   go_ret
   exact ⟨rfl, sW.out⟩
  ·have h3' : (x.table == table) = false := by simpa using h3
   rw [decide_eq_true h1, decide_eq_false h3]
   go_enter Tryz.func50, Tryz.ntmps50
   go_upto_region 1 with fail
   rw [← sR.out]
   clear sR
   generalize W.heap.size = bx at tu ⊢
   obtain ⟨x0, x1, x3, x4, x5⟩ := aY tu.out
   rw [h1] at x0
   clear h1 h3
   go_wp2_with fail
   go_ret
   exact ⟨rfl, sW.out⟩
 ·have h1' : (x.kind == 2) = false := by simpa using h1
  rw [decide_eq_false h1]
  go_enter Tryz.func50, Tryz.ntmps50
  go_upto_region 1 with fail
  rw [← sR.out]
  clear sR
  generalize W.heap.size = bx at tu ⊢
  obtain ⟨x0, x1, x3, x4, x5⟩ := aY tu.out
  clear h1
  go_wp2_with fail
  go_ret
  exact ⟨rfl, sW.out⟩
def EscdL (B : World) (D : PH) (l : List HP) (L : Nat) (ts : List (List Bool)) (room : Int) (R : LkM × Bool) (r : Ending) (w' : World) : Prop := ∃ D', r = .returned (.bool R.2) ∧ PH.le D D' ∧ Sat B D' w' (b7 D' L ts room R.1 :: l)
theorem escK_no {m : LkM} {o table many : Int} (h : (aR m.q o table).length = 0 ∨ ((aR m.q o table).length : Int) ≤ many ∨ (aV RC m.q o (cM table (aR m.q o table)) false).2 = false) : dG m o table many = (m, false) := by unfold dG; rw [if_pos h]
theorem askQ_no {q : Qm Clm} {o : Int} {c : Clm} (h : (aV RC q o c false).2 = false) : (aV RC q o c false).1 = q := by
 revert h
 unfold aV
 split
 ·exact fun _ => rfl
 ·split
  ·intro h; cases h
  ·split
   ·intro h; cases h
   ·exact fun _ => rfl
theorem Esc_L {B w : World} {D : PH} {l : List HP} {L : Nat} {ts : List (List Bool)} {room : Int} {m : LkM} (o table many : Int) (hD : EnvD D) (hqs : ∀ e ∈ m.q.held, ClmSm 1000000 e.c) (hM : m.q.held.length + m.q.waits.length ≤ 999) (hwy : m.why.length ≤ 100000) (h : Sat B D w (b7 D L ts room m :: l)) :
  Calls Tryz.prog 19 #[.pointer (some ⟨L, 0, none⟩), .int .i64 o, .int .i64 table, .int .i64 many] w (EscdL B D l L ts room (dG m o table many)) := by
 obtain ⟨W1, hW1, hs1⟩ := Sat.hide (h.alloc #[.int .i64 table] 3)
 have sR := BO hW1
 have HD := BO hD
 have xF := BO hqs
 have Ay := BO hM
 have zE := BO hwy
 have hlen : (aE m.q o).length ≤ 999 := by
  unfold aE
  rw [List.length_map]
  exact Nat.le_trans (List.length_filter_le _ _) (by omega)
 have sS := BO hs1
 clear h hs1 hD hqs hW1 hwy
 go_enter Tryz.func19, Tryz.ntmps19
 go_upto_region 1 with fail
 rw [← sR.out]
 clear sR
 generalize w.heap.size = bt at *
 obtain ⟨d0, _⟩ := aM (sS.out.blk 0 rfl)
 have sX := BO (sS.out.alloc (eD table 3).cells.toArray tCl)
 clear sS
 go_upto_region 5 with (first | (refine fp rfl _ _ _ rfl table rfl rfl rfl ?_) | (refine ax rfl _ _ _ rfl (eD table 3).cells _ _ rfl rfl (by kernel_rfl) rfl (ClmE.one (eD table 3)) ?_))
 obtain ⟨W2, hW2, hs2⟩ := Sat.hide sX.out
 rw [← hW2]
 clear hW2 sX d0
 generalize W1.heap.size = bc at hs2 ⊢
 obtain ⟨q, tv, rv, rs, ht, hr, h3⟩ := bW (hs2.front 2 rfl)
 have HT := BO ht
 have HR := BO hr
 obtain ⟨c0, c1, c2, c3, _⟩ := bA (h3.blk 0 rfl)
 have ue := BO (jE o (by omega) h3.swap)
 clear hs2 ht hr h3
 go_upto_region 7 with (go_at_call 49; refine ue.out.mono ?_; rintro e1 w1 ⟨v1, rfl, hs3⟩; obtain ⟨cs, hcs, hok, hs4⟩ := d4 hs3; obtain ⟨va, vc, rfl⟩ := hs4.own_shape; have sY := BO (bN HT.out HR.out (((hs4.front 3 rfl).front 2 rfl).front 3 rfl)); have ui := BO hcs; have tJ := BO hok; clear hs3 hcs hok hs4 ue c0 c1 c2 c3)
 obtain ⟨N, hN⟩ : ∃ N, cs.length = N := ⟨_, rfl⟩
 have HN := BO hN
 have uj := BO (show N = (aE m.q o).length by rw [← ui.out, List.length_map, hN])
 rw [hN] at sY
 rw [hN]
 have hNM : N ≤ 999 := by have := uj.out; omega
 clear hN
 go_wp2_with fail
 go_loopw [11, 26] (fun nv ii wr => ∃ (j : Nat), nv = .int .i64 ((em table (aE m.q o) j).length : Int) ∧ ii = .int .i64 j ∧ j ≤ N ∧ Sat B D wr (b7 D L ts room m :: aJ tCl 16 (.slice va N vc) N (cs.flatMap ClmE.cells) :: blk bc (eD table (eV (em table (aE m.q o) j))).cells.toArray tCl :: blk bt #[.int .i64 table] 3 :: l)) (fun _ ii _ => N - (intOf ii).toNat)
 case atStart => exact ⟨0, rfl, rfl, by omega, sY.out⟩
 case round =>
  obtain ⟨j, rfl, rfl, hj, hs5⟩ := hrel
  have sV := BO hs5
  clear hs5 sY
  have hrl := nZ table (aE m.q o) j
  by_cases hlt : j < N
  ·have hii : (j : Int) < (N : Int) := by omega
   obtain ⟨x, hx⟩ : ∃ x, cs[j]? = some x := ⟨cs[j]'(by rw [HN.out]; exact hlt), List.getElem?_eq_getElem _⟩
   obtain ⟨g, og, rfl, hrng⟩ := aD ClmE.len (sV.out.own 1 rfl).rd hx HN.out
   have th := BO (ay hrng)
   have hxc : (aE m.q o)[j]? = some x.c := by rw [← ui.out, List.getElem?_map, hx]; rfl
   have wH := BO hxc
   have yA := BO (tJ.out x (List.mem_of_getElem? hx))
   have s0 := BO (sV.out.alloc x.cells.toArray tCl)
   generalize hrn : (em table (aE m.q o) j) = rr at *
   have tl := BO hrn
   clear hx hrng hxc sV hrn
   go_upto_region 9 with (first | (refine ag rfl _ _ rfl _ _ rfl _ th.out ?_) | (refine ax rfl _ _ _ rfl x.cells _ _ rfl rfl (by kernel_rfl) rfl (ClmE.one x) ?_))
   obtain ⟨W6, hW6, hs6⟩ := Sat.hide s0.out
   rw [← hW6]
   clear hW6 s0 th
   generalize wr.heap.size = bx at hs6 ⊢
   have yB := BO (ay (ai (hs6.blk 0 rfl)))
   have HP := BO (r8 (B := B) (D := D) (l := blk bt #[.int .i64 table] 3 :: l) 0 rfl x yA.out W6 [blk bx x.cells.toArray tCl, b7 D L ts room m, aJ tCl 16 (.slice (some ⟨g, og, none⟩) N vc) N (cs.flatMap ClmE.cells), blk bc (eD table (eV rr)).cells.toArray tCl] hs6)
   have s0 := BO hs6
   clear hs6
   cases hro : bm table x.c
   ·have wW := BO (qj wH.out hro)
    rw [hro] at HP
    clear hro
    go_wp2_with (first | (refine ag rfl _ _ rfl _ _ rfl _ yB.out ?_) | (go_at_call 50; refine HP.out.mono ?_; rintro e7 w7 ⟨rfl, hk7⟩; have td := BO (s0.out.kept hk7); clear hk7 HP s0 yB))
    go_roundw
    case rel => exact ⟨j + 1, by rw [wW.out, tl.out], by go_num, by omega, by rw [wW.out, tl.out]; exact td.out.drop⟩
    case measure => simp [intOf]; omega
   ·have wW := BO (oF wH.out hro)
    rw [hro] at HP
    clear hro
    go_upto_region 11 with (first | (refine ag rfl _ _ rfl _ _ rfl _ yB.out ?_) | (go_at_call 50; refine HP.out.mono ?_; rintro e7 w7 ⟨rfl, hk7⟩; have td := BO (s0.out.kept hk7); clear hk7 HP s0 yB))
    obtain ⟨x2, _⟩ := aW (td.out.blk 0 rfl)
    by_cases h3 : x.mode = 3
    ·have yH := BO (sD (rs := rr) (c := x.c) h3)
     rw [h3] at x2
     clear h3
     go_wp2_with fail
     go_roundw
     case rel => exact ⟨j + 1, by rw [wW.out, tl.out, List.length_append]; go_num, by go_num, by omega, by rw [wW.out, tl.out, yH.out]; exact td.out.drop⟩
     case measure => simp [intOf]; omega
    ·have yH := BO (sG (rs := rr) (c := x.c) h3)
     have h3' : (x.mode == 3) = false := by simpa using h3
     have y2 := (aW (td.out.blk 3 rfl)).1
     have yf := frz (td.out.blk 3 rfl)
     have tj := BO (Sat.setMd (td.out.front 3 rfl))
     clear h3
     go_wp2_with fail
     go_roundw
     case rel => exact ⟨j + 1, by rw [wW.out, tl.out, List.length_append]; go_num, by go_num, by omega, by rw [wW.out, tl.out, yH.out]; exact (tj.out.swap.drop.front 2 rfl).front 2 rfl⟩
     case measure => simp [intOf]; omega
  ·have hii : ¬ ((j : Int) < (N : Int)) := by omega
   obtain rfl : j = N := by omega
   have hall : em table (aE m.q o) j = aR m.q o table := by
    unfold em aR
    rw [List.take_of_length_le (by have := uj.out; omega)]
   rw [hall] at sV hrl ⊢
   clear hall
   go_upto_region 14 with fail
   clear hii hj
   obtain ⟨R, hR⟩ : ∃ R, aR m.q o table = R := ⟨_, rfl⟩
   have zG := BO hR
   have tK := BO (escK_no (m := m) (o := o) (table := table) (many := many))
   have vq := BO (np (m := m) (o := o) (table := table) (many := many))
   rw [hR] at sV tK vq hrl ⊢
   clear hR
   have ti := BO sV.out.drew
   have tg := BO (ay (w := wr.drew) (ai (ti.out.blk 2 rfl)))
   clear sV
   obtain ⟨n, hn⟩ : ∃ n, R.length = n := ⟨_, rfl⟩
   have wn := BO hn
   rw [hn] at hrl ⊢
   clear hn
   by_cases h0 : n = 0
   ·subst h0
    refine af [(0, false, 14), (1, false, 14), (2, false, 14), (3, false, 14), (4, false, 14), (5, false, 14), (6, false, 14), (7, false, 14), (8, false, 14), (9, false, 14), (10, false, 14), (11, false, 14), (12, false, 14), (13, false, 14), (14, true, 0), (15, false, 999), (16, false, 999)] (by kernel_rfl) (by kernel_rfl) ?_
    iterate 3 (refine ae rfl rfl (fun K hK => ?_); (first | ((refine aj _ _ rfl _ _ rfl _ tg.out ?_); go_simp) | go_simp); refine hK _ ?_; clear hK K)
    iterate 3 (first | (refine am rfl rfl ?_; simp only [Act.put, BP, BQ, BR, BS, BT, BU]) | (refine ak rfl rfl (fun K hK => ?_); (first | ((refine aj _ _ rfl _ _ rfl _ tg.out ?_); go_simp) | go_simp); refine hK _ ?_; clear hK K))
    iterate 2 (refine ae rfl rfl (fun K hK => ?_); (first | ((refine aj _ _ rfl _ _ rfl _ tg.out ?_); go_simp) | go_simp); refine hK _ ?_; clear hK K)
    iterate 6 (first | (refine am rfl rfl ?_; simp only [Act.put, BP, BQ, BR, BS, BT, BU]) | (refine ak rfl rfl (fun K hK => ?_); (first | ((refine aj _ _ rfl _ _ rfl _ tg.out ?_); go_simp) | go_simp); refine hK _ ?_; clear hK K))
    refine al rfl ?_
    refine bI rfl ?_
    simp only [Act.put, BP, BQ, BR]
    refine wpList_nil ?_
    refine And.intro ?_ ?_
    ·go_simp
    first | (refine am rfl rfl ?_; simp only [Act.put, BP, BQ, BR, BS, BT, BU]) | (refine ak rfl rfl (fun K hK => ?_); (first | ((refine aj _ _ rfl _ _ rfl _ tg.out ?_); go_simp) | go_simp); refine hK _ ?_; clear hK K)
    refine ae rfl rfl (fun K hK => ?_); (first | ((refine aj _ _ rfl _ _ rfl _ tg.out ?_); go_simp) | go_simp); refine hK _ ?_; clear hK K
    refine ap ?_
    go_wp2_with fail
    go_ret
    rw [tK.out (.inl wn.out)]
    exact ⟨D, rfl, PH.le.refl _, ti.out.rm2.rm2.swap.drop⟩
   have h0' : ((n : Int) == 0) = false := by simp; omega
   by_cases hm : (n : Int) ≤ many
   ·refine af [(0, false, 14), (1, false, 14), (2, false, 14), (3, false, 14), (4, false, 14), (5, false, 14), (6, false, 14), (7, false, 14), (8, false, 14), (9, false, 14), (10, false, 14), (11, false, 14), (12, false, 14), (13, false, 14), (14, true, 0), (15, false, 999), (16, false, 999)] (by kernel_rfl) (by kernel_rfl) ?_
    iterate 3 (refine ae rfl rfl (fun K hK => ?_); (first | ((refine aj _ _ rfl _ _ rfl _ tg.out ?_); go_simp) | go_simp); refine hK _ ?_; clear hK K)
    iterate 3 (first | (refine am rfl rfl ?_; simp only [Act.put, BP, BQ, BR, BS, BT, BU]) | (refine ak rfl rfl (fun K hK => ?_); (first | ((refine aj _ _ rfl _ _ rfl _ tg.out ?_); go_simp) | go_simp); refine hK _ ?_; clear hK K))
    iterate 2 (refine ae rfl rfl (fun K hK => ?_); (first | ((refine aj _ _ rfl _ _ rfl _ tg.out ?_); go_simp) | go_simp); refine hK _ ?_; clear hK K)
    iterate 6 (first | (refine am rfl rfl ?_; simp only [Act.put, BP, BQ, BR, BS, BT, BU]) | (refine ak rfl rfl (fun K hK => ?_); (first | ((refine aj _ _ rfl _ _ rfl _ tg.out ?_); go_simp) | go_simp); refine hK _ ?_; clear hK K))
    refine al rfl ?_
    refine bI rfl ?_
    simp only [Act.put, BP, BQ, BR]
    refine wpList_nil ?_
    refine And.intro ?_ ?_
    ·go_simp
    first | (refine am rfl rfl ?_; simp only [Act.put, BP, BQ, BR, BS, BT, BU]) | (refine ak rfl rfl (fun K hK => ?_); (first | ((refine aj _ _ rfl _ _ rfl _ tg.out ?_); go_simp) | go_simp); refine hK _ ?_; clear hK K)
    refine ae rfl rfl (fun K hK => ?_); (first | ((refine aj _ _ rfl _ _ rfl _ tg.out ?_); go_simp) | go_simp); refine hK _ ?_; clear hK K
    refine ap ?_
    go_wp2_with fail
    go_ret
    rw [tK.out (.inr (.inl (by rw [wn.out]; exact hm)))]
    exact ⟨D, rfl, PH.le.refl _, ti.out.rm2.rm2.swap.drop⟩
   have hn0 : R.length ≠ 0 := by rw [wn.out]; exact h0
   have hnm : many < (R.length : Int) := by rw [wn.out]; omega
   have Bb := BO (vq.out hn0 hnm)
   obtain ⟨q, tv, rv, rs, ht, hr, h9⟩ := bW ti.out
   obtain ⟨c0, c1, c2, c3, _⟩ := bA (h9.blk 0 rfl)
   have wF := BO (Try_C o (eD table (eV R)) HD.out (jx D _ _) (pu _ _ _) xF.out (by have := Ay.out; omega) (by have := Ay.out; omega) h9.swap)
   rw [oC] at wF
   have xO := BO ht
   have xP := BO hr
   clear ht hr h9 ti hn0 hnm
   have vO := BO (jG (R := RC) m.q o (cM table R) false)
   have yn := BO (askQ_no (q := m.q) (o := o) (c := cM table R))
   obtain ⟨q1, is, hask⟩ : ∃ q1 is, aV RC m.q o (cM table R) false = (q1, is) := ⟨_, _, rfl⟩
   rw [hask] at wF Bb vO yn tK
   cases is
   ·refine af [(0, false, 14), (1, false, 14), (2, false, 14), (3, false, 14), (4, false, 14), (5, false, 14), (6, false, 14), (7, false, 14), (8, false, 14), (9, false, 14), (10, false, 14), (11, false, 14), (12, false, 14), (13, false, 14), (14, true, 0), (15, false, 999), (16, false, 999)] (by kernel_rfl) (by kernel_rfl) ?_
    iterate 3 (refine ae rfl rfl (fun K hK => ?_); (first | ((refine aj _ _ rfl _ _ rfl _ tg.out ?_); go_simp) | go_simp); refine hK _ ?_; clear hK K)
    iterate 3 (first | (refine am rfl rfl ?_; simp only [Act.put, BP, BQ, BR, BS, BT, BU]) | (refine ak rfl rfl (fun K hK => ?_); (first | ((refine aj _ _ rfl _ _ rfl _ tg.out ?_); go_simp) | go_simp); refine hK _ ?_; clear hK K))
    iterate 2 (refine ae rfl rfl (fun K hK => ?_); (first | ((refine aj _ _ rfl _ _ rfl _ tg.out ?_); go_simp) | go_simp); refine hK _ ?_; clear hK K)
    iterate 6 (first | (refine am rfl rfl ?_; simp only [Act.put, BP, BQ, BR, BS, BT, BU]) | (refine ak rfl rfl (fun K hK => ?_); (first | ((refine aj _ _ rfl _ _ rfl _ tg.out ?_); go_simp) | go_simp); refine hK _ ?_; clear hK K))
    refine al rfl ?_
    refine aw rfl (fun K hK => ?_)
    go_simp
    refine wF.out.mono ?_
    rintro e9 w9 ⟨D9, rfl, hle9, hs9⟩
    have uB := BO hle9
    have ti := BO hs9
    clear hle9 hs9 wF tg c0 c1 c2 c3
    refine hK _ _ ?_
    clear hK K
    refine wpList_nil ?_
    refine And.intro ?_ ?_
    ·go_simp
    first | (refine am rfl rfl ?_; simp only [Act.put, BP, BQ, BR, BS, BT, BU]) | (refine ak rfl rfl (fun K hK => ?_); (first | ((refine aj _ _ rfl _ _ rfl _ tg.out ?_); go_simp) | go_simp); refine hK _ ?_; clear hK K)
    refine ae rfl rfl (fun K hK => ?_); (first | ((refine aj _ _ rfl _ _ rfl _ tg.out ?_); go_simp) | go_simp); refine hK _ ?_; clear hK K
    refine ap ?_
    go_wp2_with fail
    go_ret
    rw [tK.out (.inr (.inr (by first | rfl | trivial)))]
    have h10 := ti.out
    have e10 : q1 = m.q := yn.out trivial
    rw [e10] at h10
    exact ⟨D9, rfl, uB.out, (bN (xO.out.mono uB.out) (xP.out.mono uB.out) h10.swap).rm2.rm2.swap.drop⟩
   ·have HY := BO (Bb.out rfl)
    refine af [(0, false, 14), (1, false, 14), (2, false, 14), (3, false, 14), (4, false, 14), (5, false, 14), (6, false, 14), (7, false, 14), (8, false, 14), (9, false, 14), (10, false, 14), (11, false, 14), (12, false, 14), (13, false, 14), (14, true, 0), (15, false, 999), (16, false, 999)] (by kernel_rfl) (by kernel_rfl) ?_
    iterate 3 (refine ae rfl rfl (fun K hK => ?_); (first | ((refine aj _ _ rfl _ _ rfl _ tg.out ?_); go_simp) | go_simp); refine hK _ ?_; clear hK K)
    iterate 3 (first | (refine am rfl rfl ?_; simp only [Act.put, BP, BQ, BR, BS, BT, BU]) | (refine ak rfl rfl (fun K hK => ?_); (first | ((refine aj _ _ rfl _ _ rfl _ tg.out ?_); go_simp) | go_simp); refine hK _ ?_; clear hK K))
    iterate 2 (refine ae rfl rfl (fun K hK => ?_); (first | ((refine aj _ _ rfl _ _ rfl _ tg.out ?_); go_simp) | go_simp); refine hK _ ?_; clear hK K)
    iterate 6 (first | (refine am rfl rfl ?_; simp only [Act.put, BP, BQ, BR, BS, BT, BU]) | (refine ak rfl rfl (fun K hK => ?_); (first | ((refine aj _ _ rfl _ _ rfl _ tg.out ?_); go_simp) | go_simp); refine hK _ ?_; clear hK K))
    refine al rfl ?_
    refine aw rfl (fun K hK => ?_)
    go_simp
    refine wF.out.mono ?_
    rintro e9 w9 ⟨D9, rfl, hle9, hs9⟩
    have uB := BO hle9
    have ti := BO (bN (m := ⟨q1, m.why⟩) (xO.out.mono hle9) (xP.out.mono hle9) hs9.swap)
    clear hle9 hs9 wF tg xO xP c0 c1 c2 c3
    refine hK _ _ ?_
    clear hK K
    refine wpList_nil ?_
    refine And.intro ?_ ?_
    ·go_simp
    first | (refine am rfl rfl ?_; simp only [Act.put, BP, BQ, BR, BS, BT, BU]) | (refine ak rfl rfl (fun K hK => ?_); (first | ((refine aj _ _ rfl _ _ rfl _ tg.out ?_); go_simp) | go_simp); refine hK _ ?_; clear hK K)
    refine ae rfl rfl (fun K hK => ?_); (first | ((refine aj _ _ rfl _ _ rfl _ tg.out ?_); go_simp) | go_simp); refine hK _ ?_; clear hK K
    refine ap ?_
    go_upto_region 16 with fail
    have tG := BO (ay (w := w9.drew) (ai (ti.out.drew.blk 2 rfl)))
    have xQ := BO (nL (m := ⟨q1, m.why⟩) o (eD table (eV R)) (cj 3 0) zE.out (jx D9 _ _) ti.out.drew)
    rw [oC] at xQ
    clear ti
    refine af [(0, false, 4), (1, false, 4), (2, false, 4), (3, true, 0), (4, true, 0)] (by kernel_rfl) (by kernel_rfl) ?_
    iterate 3 (refine ae rfl rfl (fun K hK => ?_); (first | ((refine aj _ _ rfl _ _ rfl _ tG.out ?_); go_simp) | go_simp); refine hK _ ?_; clear hK K)
    refine al rfl ?_
    refine aw rfl (fun K hK => ?_)
    go_simp
    refine (g8 3 0).mono ?_
    rintro e11 w11 ⟨rfl, rfl⟩
    refine hK _ _ ?_
    clear hK K
    refine wpList_nil ?_
    refine And.intro ?_ ?_
    ·(refine ch ?_ (ch ?_ (ch ?_ (by unfold fe; trivial))) <;> first | exact mj _ _ rfl _ _ rfl _ tG.out rfl | go_simp)
    refine al rfl ?_
    refine aw rfl (fun K hK => ?_)
    go_simp
    refine xQ.out.mono ?_
    rintro e12 w12 ⟨rfl, hs12⟩
    have yh := BO (kg o (bm table) (enters_of Tryz.func50 (by kernel_rfl) rfl) (r8 (B := B) (D := D9) 2 rfl) hs12)
    clear hs12 xQ tG
    refine hK _ _ ?_
    clear hK K
    refine wpList_nil ?_
    refine And.intro ?_ ?_
    ·go_simp
    refine ap ?_
    go_upto_region 18 with (go_at_call 52; refine yh.out.mono ?_; rintro e13 w13 ⟨rfl, hs13⟩; have uD := BO (px o (bm table) (HD.out.mono uB.out) (by have := vO.out; have := Ay.out; show q1.held.length + q1.waits.length ≤ 1000; dsimp only at *; omega) (enters_of Tryz.func50 (by kernel_rfl) rfl) (r8 (B := B) (D := D9) 3 rfl) hs13); clear hs13 yh)
    go_wp2_with (go_at_call 53; refine uD.out.mono ?_; rintro e14 w14 ⟨v14, D14, rfl, hle14, hs14⟩; have zH := BO hle14; have ub := BO hs14; clear hle14 hs14 uD)
    go_ret
    rw [HY.out]
    refine ⟨D14, rfl, uB.out.trans zH.out, ?_⟩
    have h15 := ub.out.rm2.rm2.rm2.swap.drop
    have hrk : aR q1 o table = R := by
     have := jL (q := m.q) (o := o) (table := table) (c := cM table R) rfl o
     rw [hask] at this
     rw [← zG.out]; exact this
    have e : (lj ⟨q1, bD (cV m.why o (cM table R) (cj 3 0)) o (bm table)⟩ o (bm table)).1 = ⟨(a8 RC q1 (bT o R)).1, bD (cV m.why o (cM table R) 8) o (bm table)⟩ := by
     unfold lj
     dsimp only
     rw [show (aE q1 o).filter (bm table) = R from hrk]
     rfl
    rw [e] at h15
    exact h15
end Go.Proofs.YtgljdkjepdknnaaGreatDoor
