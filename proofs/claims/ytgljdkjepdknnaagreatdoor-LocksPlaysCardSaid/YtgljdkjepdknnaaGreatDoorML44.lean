/- A table in the place of rows (locks.Escalate). -/
import Derived.Test.YtgljdkjepdknnaaGreatDoorML28
import Derived.Test.YtgljdkjepdknnaaGreatDoorML26
import Derived.Test.YtgljdkjepdknnaaGreatDoorML23
import Derived.Test.YtgljdkjepdknnaaGreatDoorML21
set_option maxHeartbeats 64000000
namespace Go.Proofs.YtgljdkjepdknnaaGreatDoor
open Go.ChangeShapes Go.WideShapes Go.ChangeAt Go.RowKit
set_option maxRecDepth 100000
set_option linter.unusedSimpArgs false
abbrev fa (table md : Int) : ClmE := ⟨1, table, md, ⟨false, 0, ⟨#[]⟩⟩, none, 0, 0, [], pr0⟩
def fA (rs : List Clm) : Int := if rs.any (fun c => decide (c.mode ≠ 3)) then 6 else 3
theorem qF (table : Int) (rs : List Clm) : (fa table (fA rs)).c = dB table rs := rfl
theorem kJ (D : PH) (table md : Int) : ClOk D (fa table md) := ⟨(nK D).1, g7 D⟩
theorem qQ (N : Nat) (table md : Int) : ClmSm N (fa table md).c := ⟨Nat.zero_le _, fun r hr => (by cases hr), .mk _ _ _ _ [] (Nat.zero_le _) (fun q hq => (by cases hq))⟩
def eK (table : Int) (l : List Clm) (j : Nat) : List Clm := (l.take j).filter (bY table)
theorem qn {table : Int} {l : List Clm} {j : Nat} {c : Clm} (hx : l[j]? = some c) (h : bY table c = true) : eK table l (j + 1) = eK table l j ++ [c] := by
 unfold eK
 rw [List.take_add_one, hx, List.filter_append]
 simp [h]
theorem sN {table : Int} {l : List Clm} {j : Nat} {c : Clm} (hx : l[j]? = some c) (h : bY table c = false) : eK table l (j + 1) = eK table l j := by
 unfold eK
 rw [List.take_add_one, hx, List.filter_append]
 simp [h]
theorem qb (table : Int) (l : List Clm) (j : Nat) : (eK table l j).length ≤ j := by
 unfold eK
 exact Nat.le_trans (List.length_filter_le _ _) (by rw [List.length_take]; omega)
theorem tX {rs : List Clm} {c : Clm} (h : c.mode = 3) : fA (rs ++ [c]) = fA rs := by unfold fA; rw [List.any_append]; simp [h]
theorem tW {rs : List Clm} {c : Clm} (h : c.mode ≠ 3) : fA (rs ++ [c]) = 6 := by unfold fA; rw [List.any_append]; simp [h]
theorem Sat.setMd {B w : World} {D : PH} {l : List HP} {b : Nat} {t m : Int} (hs : Sat B D w (Proofs.YtgljdkjepdknnaaGreatDoor.blk b (fa t m).cells.toArray tCl :: l)) : Sat B D (w.setCell ⟨b, 2, none⟩ (.int .i64 6)) (Proofs.YtgljdkjepdknnaaGreatDoor.blk b (fa t 6).cells.toArray tCl :: l) := hs.set 2 (.int .i64 6)
theorem l7 (w : World) (t : Int) : (Instr.build tCl #[(0, .int .i64 1), (1, .int .i64 t), (2, .int .i64 3)]).run Tryz.prog w = .ok (.agg (fa t 3).cells.toArray) w := run_build w _ _ _ (by kernel_rfl)
theorem fW {w : World} {o : Oper} {a : Act} {ops : Array Oper} {rest : List Oper} {Q : Exit → Act → World → Prop} (hgd : o.guard = none) (x0 x1 x2 : Operand) (ho : o.op = .build tCl #[(0, x0), (1, x1), (2, x2)]) (t : Int) (h0 : a.eval x0 = .int .i64 1) (h1 : a.eval x1 = .int .i64 t) (h2 : a.eval x2 = .int .i64 3)
  (h : wpList Tryz.prog ops Q rest (a.put o.dst (.agg (fa t 3).cells.toArray)) w) : wpList Tryz.prog ops Q (o :: rest) a w :=
 wpList_plain hgd fun _ hK => by
  have hrun := l7 w t
  unfold Oper.wp execOp
  simp only [ho, List.map_toArray, List.map_cons, List.map_nil, h0, h1, h2, Sem.run_bind, Sem.run_pure, Result.andThen_ok, hrun]
  exact hK _ _ h
theorem uo {B : World} {D : PH} {l : List HP} {b : Nat} {table : Int} (i : Nat) (hi : l[i]? = some (blk b #[.int .i64 table] 3)) :
  gW B D l 50 #[.pointer (some ⟨b, 0, none⟩)] (bY table) := by
 intro x hx W X hX
 have h2 := hX.blk (X.length + i) (by rw [List.getElem?_append_right (by omega), Nat.add_sub_cancel_left, hi])
 obtain ⟨W1, hW1, hk1, hbx, hb1⟩ := cm h2 x.cells.toArray tCl
 have uW := Eh hW1
 have vd := Eh hk1
 have vJ := Eh hbx
 obtain ⟨d0, _⟩ := aK hb1
 clear h2 hX hW1 hk1 hbx hb1
 show Calls Tryz.prog 50 #[.agg x.cells.toArray, .pointer (some ⟨b, 0, none⟩)] W fun e W' => e = .returned (.bool (decide (x.kind = 2) && decide (x.table = table))) ∧ _
 by_cases h1 : x.kind = 2
 ·by_cases h3 : x.table = table
  ·rw [decide_eq_true h1, decide_eq_true h3]
   go_enter Tryz.func50, Tryz.ntmps50
   go_upto_region 1 with fail
   rw [← uW.out]
   clear uW
   generalize W.heap.size = bx at vJ ⊢
   obtain ⟨x0, x1, x3, x4, x5⟩ := a7 vJ.out
   rw [h1] at x0
   rw [h3] at x1
   clear h1 h3
   go_wp2_with fail
   go_ret
   exact ⟨rfl, vd.out⟩
  ·have h3' : (x.table == table) = false := by simpa using h3
   rw [decide_eq_true h1, decide_eq_false h3]
   go_enter Tryz.func50, Tryz.ntmps50
   go_upto_region 1 with fail
   rw [← uW.out]
   clear uW
   generalize W.heap.size = bx at vJ ⊢
   obtain ⟨x0, x1, x3, x4, x5⟩ := a7 vJ.out
   rw [h1] at x0
   clear h1 h3
   go_wp2_with fail
   go_ret
   exact ⟨rfl, vd.out⟩
 ·have h1' : (x.kind == 2) = false := by simpa using h1
  rw [decide_eq_false h1]
  go_enter Tryz.func50, Tryz.ntmps50
  go_upto_region 1 with fail
  rw [← uW.out]
  clear uW
  generalize W.heap.size = bx at vJ ⊢
  obtain ⟨x0, x1, x3, x4, x5⟩ := a7 vJ.out
  clear h1
  go_wp2_with fail
  go_ret
  exact ⟨rfl, vd.out⟩
def EscdL (B : World) (D : PH) (l : List HP) (L : Nat) (ts : List (List Bool)) (room : Int) (R : LkM × Bool) (r : Ending) (w' : World) : Prop := ∃ D', r = .returned (.bool R.2) ∧ PH.le D D' ∧ Sat B D' w' (cd D' L ts room R.1 :: l)
theorem escK_no {m : LkM} {o table many : Int} (h : (bB m.q o table).length = 0 ∨ ((bB m.q o table).length : Int) ≤ many ∨ (bj RC m.q o (dB table (bB m.q o table)) false).2 = false) : gP m o table many = (m, false) := by unfold gP; rw [if_pos h]
theorem askQ_no {q : Qm Clm} {o : Int} {c : Clm} (h : (bj RC q o c false).2 = false) : (bj RC q o c false).1 = q := by
 revert h
 unfold bj
 split
 ·exact fun _ => rfl
 ·split
  ·intro h; cases h
  ·split
   ·intro h; cases h
   ·exact fun _ => rfl
theorem Esc_L {B w : World} {D : PH} {l : List HP} {L : Nat} {ts : List (List Bool)} {room : Int} {m : LkM} (o table many : Int) (hD : EnvD D) (hqs : ∀ e ∈ m.q.held, ClmSm 1000000 e.c) (hM : m.q.held.length + m.q.waits.length ≤ 999) (hwy : m.why.length ≤ 100000) (h : Sat B D w (cd D L ts room m :: l)) :
  Calls Tryz.prog 19 #[.pointer (some ⟨L, 0, none⟩), .int .i64 o, .int .i64 table, .int .i64 many] w (EscdL B D l L ts room (gP m o table many)) := by
 obtain ⟨W1, hW1, hs1⟩ := Sat.hide (h.alloc #[.int .i64 table] 3)
 have uW := Eh hW1
 have HD := Eh hD
 have zZ := Eh hqs
 have CI := Eh hM
 have BT := Eh hwy
 have hlen : (aN m.q o).length ≤ 999 := by
  unfold aN
  rw [List.length_map]
  exact Nat.le_trans (List.length_filter_le _ _) (by omega)
 have uX := Eh hs1
 clear h hs1 hD hqs hW1 hwy
 go_enter Tryz.func19, Tryz.ntmps19
 go_upto_region 1 with fail
 rw [← uW.out]
 clear uW
 generalize w.heap.size = bt at *
 obtain ⟨d0, _⟩ := aK (uX.out.blk 0 rfl)
 have vg := Eh (uX.out.alloc (fa table 3).cells.toArray tCl)
 clear uX
 go_upto_region 5 with (first | (refine fW rfl _ _ _ rfl table rfl rfl rfl ?_) | (refine ax rfl _ _ _ rfl (fa table 3).cells _ _ rfl rfl (by kernel_rfl) rfl (ClmE.one (fa table 3)) ?_))
 obtain ⟨W2, hW2, hs2⟩ := Sat.hide vg.out
 rw [← hW2]
 clear hW2 vg d0
 generalize W1.heap.size = bc at hs2 ⊢
 obtain ⟨q, tv, rv, rs, ht, hr, h3⟩ := ch (hs2.front 2 rfl)
 have HT := Eh ht
 have HR := Eh hr
 obtain ⟨c0, c1, c2, c3, _⟩ := bF (h3.blk 0 rfl)
 have wH := Eh (kB o (by omega) h3.swap)
 clear hs2 ht hr h3
 go_upto_region 7 with (go_at_call 49; refine wH.out.mono ?_; rintro e1 w1 ⟨v1, rfl, hs3⟩; obtain ⟨cs, hcs, hok, hs4⟩ := dE hs3; obtain ⟨va, vc, rfl⟩ := hs4.own_shape; have vh := Eh (bQ HT.out HR.out (((hs4.front 3 rfl).front 2 rfl).front 3 rfl)); have wE := Eh hcs; have vP := Eh hok; clear hs3 hcs hok hs4 wH c0 c1 c2 c3)
 obtain ⟨N, hN⟩ : ∃ N, cs.length = N := ⟨_, rfl⟩
 have HN := Eh hN
 have wA := Eh (show N = (aN m.q o).length by rw [← wE.out, List.length_map, hN])
 rw [hN] at vh
 rw [hN]
 have hNM : N ≤ 999 := by have := wA.out; omega
 clear hN
 go_wp2_with fail
 go_loopw [11, 26] (fun nv ii wr => ∃ (j : Nat), nv = .int .i64 ((eK table (aN m.q o) j).length : Int) ∧ ii = .int .i64 j ∧ j ≤ N ∧ Sat B D wr (cd D L ts room m :: aI tCl 16 (.slice va N vc) N (cs.flatMap ClmE.cells) :: blk bc (fa table (fA (eK table (aN m.q o) j))).cells.toArray tCl :: blk bt #[.int .i64 table] 3 :: l)) (fun _ ii _ => N - (intOf ii).toNat)
 case atStart => exact ⟨0, rfl, rfl, by omega, vh.out⟩
 case round =>
  obtain ⟨j, rfl, rfl, hj, hs5⟩ := hrel
  have uZ := Eh hs5
  clear hs5 vh
  have hrl := qb table (aN m.q o) j
  by_cases hlt : j < N
  ·have hii : (j : Int) < (N : Int) := by omega
   obtain ⟨x, hx⟩ : ∃ x, cs[j]? = some x := ⟨cs[j]'(by rw [HN.out]; exact hlt), List.getElem?_eq_getElem _⟩
   obtain ⟨g, og, rfl, hrng⟩ := aF ClmE.len (uZ.out.own 1 rfl).rd hx HN.out
   have vt := Eh (az hrng)
   have hxc : (aN m.q o)[j]? = some x.c := by rw [← wE.out, List.getElem?_map, hx]; rfl
   have zj := Eh hxc
   have zn := Eh (vP.out x (List.mem_of_getElem? hx))
   have vi := Eh (uZ.out.alloc x.cells.toArray tCl)
   generalize hrn : (eK table (aN m.q o) j) = rr at *
   have vA := Eh hrn
   clear hx hrng hxc uZ hrn
   go_upto_region 9 with (first | (refine ai rfl _ _ rfl _ _ rfl _ vt.out ?_) | (refine ax rfl _ _ _ rfl x.cells _ _ rfl rfl (by kernel_rfl) rfl (ClmE.one x) ?_))
   obtain ⟨W6, hW6, hs6⟩ := Sat.hide vi.out
   rw [← hW6]
   clear hW6 vi vt
   generalize wr.heap.size = bx at hs6 ⊢
   have AV := Eh (az (ak (hs6.blk 0 rfl)))
   have HP := Eh (uo (B := B) (D := D) (l := blk bt #[.int .i64 table] 3 :: l) 0 rfl x zn.out W6 [blk bx x.cells.toArray tCl, cd D L ts room m, aI tCl 16 (.slice (some ⟨g, og, none⟩) N vc) N (cs.flatMap ClmE.cells), blk bc (fa table (fA rr)).cells.toArray tCl] hs6)
   have vi := Eh hs6
   clear hs6
   cases hro : bY table x.c
   ·have zz := Eh (sN zj.out hro)
    rw [hro] at HP
    clear hro
    go_wp2_with (first | (refine ai rfl _ _ rfl _ _ rfl _ AV.out ?_) | (go_at_call 50; refine HP.out.mono ?_; rintro e7 w7 ⟨rfl, hk7⟩; have vn := Eh (vi.out.kept hk7); clear hk7 HP vi AV))
    go_roundw
    case rel => exact ⟨j + 1, by rw [zz.out, vA.out], by go_num, by omega, by rw [zz.out, vA.out]; exact vn.out.drop⟩
    case measure => simp [intOf]; omega
   ·have zz := Eh (qn zj.out hro)
    rw [hro] at HP
    clear hro
    go_upto_region 11 with (first | (refine ai rfl _ _ rfl _ _ rfl _ AV.out ?_) | (go_at_call 50; refine HP.out.mono ?_; rintro e7 w7 ⟨rfl, hk7⟩; have vn := Eh (vi.out.kept hk7); clear hk7 HP vi AV))
    obtain ⟨x2, _⟩ := aV (vn.out.blk 0 rfl)
    by_cases h3 : x.mode = 3
    ·have A2 := Eh (tX (rs := rr) (c := x.c) h3)
     rw [h3] at x2
     clear h3
     go_wp2_with fail
     go_roundw
     case rel => exact ⟨j + 1, by rw [zz.out, vA.out, List.length_append]; go_num, by go_num, by omega, by rw [zz.out, vA.out, A2.out]; exact vn.out.drop⟩
     case measure => simp [intOf]; omega
    ·have A2 := Eh (tW (rs := rr) (c := x.c) h3)
     have h3' : (x.mode == 3) = false := by simpa using h3
     have y2 := (aV (vn.out.blk 3 rfl)).1
     have yf := frz (vn.out.blk 3 rfl)
     have vw := Eh (Sat.setMd (vn.out.front 3 rfl))
     clear h3
     go_wp2_with fail
     go_roundw
     case rel => exact ⟨j + 1, by rw [zz.out, vA.out, List.length_append]; go_num, by go_num, by omega, by rw [zz.out, vA.out, A2.out]; exact (vw.out.swap.drop.front 2 rfl).front 2 rfl⟩
     case measure => simp [intOf]; omega
  ·have hii : ¬ ((j : Int) < (N : Int)) := by omega
   obtain rfl : j = N := by omega
   have hall : eK table (aN m.q o) j = bB m.q o table := by
    unfold eK bB
    rw [List.take_of_length_le (by have := wA.out; omega)]
   rw [hall] at uZ hrl ⊢
   clear hall
   go_upto_region 14 with fail
   clear hii hj
   obtain ⟨R, hR⟩ : ∃ R, bB m.q o table = R := ⟨_, rfl⟩
   have BV := Eh hR
   have vT := Eh (escK_no (m := m) (o := o) (table := table) (many := many))
   have xU := Eh (pp (m := m) (o := o) (table := table) (many := many))
   rw [hR] at uZ vT xU hrl ⊢
   clear hR
   have vu := Eh uZ.out.drew
   have vr := Eh (az (w := wr.drew) (ak (vu.out.blk 2 rfl)))
   clear uZ
   obtain ⟨n, hn⟩ : ∃ n, R.length = n := ⟨_, rfl⟩
   have ym := Eh hn
   rw [hn] at hrl ⊢
   clear hn
   by_cases h0 : n = 0
   ·subst h0
    refine ag [(0, false, 14), (1, false, 14), (2, false, 14), (3, false, 14), (4, false, 14), (5, false, 14), (6, false, 14), (7, false, 14), (8, false, 14), (9, false, 14), (10, false, 14), (11, false, 14), (12, false, 14), (13, false, 14), (14, true, 0), (15, false, 999), (16, false, 999)] (by kernel_rfl) (by kernel_rfl) ?_
    iterate 3 (refine af rfl rfl (fun K hK => ?_); (first | ((refine aj _ _ rfl _ _ rfl _ vr.out ?_); go_simp) | go_simp); refine hK _ ?_; clear hK K)
    iterate 3 (first | (refine aq rfl rfl ?_; simp only [Act.put, Ei, Ej, Ek, El, Em, En]) | (refine am rfl rfl (fun K hK => ?_); (first | ((refine aj _ _ rfl _ _ rfl _ vr.out ?_); go_simp) | go_simp); refine hK _ ?_; clear hK K))
    iterate 2 (refine af rfl rfl (fun K hK => ?_); (first | ((refine aj _ _ rfl _ _ rfl _ vr.out ?_); go_simp) | go_simp); refine hK _ ?_; clear hK K)
    iterate 6 (first | (refine aq rfl rfl ?_; simp only [Act.put, Ei, Ej, Ek, El, Em, En]) | (refine am rfl rfl (fun K hK => ?_); (first | ((refine aj _ _ rfl _ _ rfl _ vr.out ?_); go_simp) | go_simp); refine hK _ ?_; clear hK K))
    refine al rfl ?_
    refine bO rfl ?_
    simp only [Act.put, Ei, Ej, Ek]
    refine wpList_nil ?_
    refine And.intro ?_ ?_
    ·go_simp
    first | (refine aq rfl rfl ?_; simp only [Act.put, Ei, Ej, Ek, El, Em, En]) | (refine am rfl rfl (fun K hK => ?_); (first | ((refine aj _ _ rfl _ _ rfl _ vr.out ?_); go_simp) | go_simp); refine hK _ ?_; clear hK K)
    refine af rfl rfl (fun K hK => ?_); (first | ((refine aj _ _ rfl _ _ rfl _ vr.out ?_); go_simp) | go_simp); refine hK _ ?_; clear hK K
    refine ar ?_
    go_wp2_with fail
    go_ret
    rw [vT.out (.inl ym.out)]
    exact ⟨D, rfl, PH.le.refl _, vu.out.rm2.rm2.swap.drop⟩
   have h0' : ((n : Int) == 0) = false := by simp; omega
   by_cases hm : (n : Int) ≤ many
   ·refine ag [(0, false, 14), (1, false, 14), (2, false, 14), (3, false, 14), (4, false, 14), (5, false, 14), (6, false, 14), (7, false, 14), (8, false, 14), (9, false, 14), (10, false, 14), (11, false, 14), (12, false, 14), (13, false, 14), (14, true, 0), (15, false, 999), (16, false, 999)] (by kernel_rfl) (by kernel_rfl) ?_
    iterate 3 (refine af rfl rfl (fun K hK => ?_); (first | ((refine aj _ _ rfl _ _ rfl _ vr.out ?_); go_simp) | go_simp); refine hK _ ?_; clear hK K)
    iterate 3 (first | (refine aq rfl rfl ?_; simp only [Act.put, Ei, Ej, Ek, El, Em, En]) | (refine am rfl rfl (fun K hK => ?_); (first | ((refine aj _ _ rfl _ _ rfl _ vr.out ?_); go_simp) | go_simp); refine hK _ ?_; clear hK K))
    iterate 2 (refine af rfl rfl (fun K hK => ?_); (first | ((refine aj _ _ rfl _ _ rfl _ vr.out ?_); go_simp) | go_simp); refine hK _ ?_; clear hK K)
    iterate 6 (first | (refine aq rfl rfl ?_; simp only [Act.put, Ei, Ej, Ek, El, Em, En]) | (refine am rfl rfl (fun K hK => ?_); (first | ((refine aj _ _ rfl _ _ rfl _ vr.out ?_); go_simp) | go_simp); refine hK _ ?_; clear hK K))
    refine al rfl ?_
    refine bO rfl ?_
    simp only [Act.put, Ei, Ej, Ek]
    refine wpList_nil ?_
    refine And.intro ?_ ?_
    ·go_simp
    first | (refine aq rfl rfl ?_; simp only [Act.put, Ei, Ej, Ek, El, Em, En]) | (refine am rfl rfl (fun K hK => ?_); (first | ((refine aj _ _ rfl _ _ rfl _ vr.out ?_); go_simp) | go_simp); refine hK _ ?_; clear hK K)
    refine af rfl rfl (fun K hK => ?_); (first | ((refine aj _ _ rfl _ _ rfl _ vr.out ?_); go_simp) | go_simp); refine hK _ ?_; clear hK K
    refine ar ?_
    go_wp2_with fail
    go_ret
    rw [vT.out (.inr (.inl (by rw [ym.out]; exact hm)))]
    exact ⟨D, rfl, PH.le.refl _, vu.out.rm2.rm2.swap.drop⟩
   have hn0 : R.length ≠ 0 := by rw [ym.out]; exact h0
   have hnm : many < (R.length : Int) := by rw [ym.out]; omega
   have Dl := Eh (xU.out hn0 hnm)
   obtain ⟨q, tv, rv, rs, ht, hr, h9⟩ := ch vu.out
   obtain ⟨c0, c1, c2, c3, _⟩ := bF (h9.blk 0 rfl)
   have zg := Eh (Try_C o (fa table (fA R)) HD.out (kJ D _ _) (qQ _ _ _) zZ.out (by have := CI.out; omega) (by have := CI.out; omega) h9.swap)
   rw [qF] at zg
   have Ah := Eh ht
   have Ai := Eh hr
   clear ht hr h9 vu hn0 hnm
   have yx := Eh (m9 (R := RC) m.q o (dB table R) false)
   have AI := Eh (askQ_no (q := m.q) (o := o) (c := dB table R))
   obtain ⟨q1, is, hask⟩ : ∃ q1 is, bj RC m.q o (dB table R) false = (q1, is) := ⟨_, _, rfl⟩
   rw [hask] at zg Dl yx AI vT
   cases is
   ·refine ag [(0, false, 14), (1, false, 14), (2, false, 14), (3, false, 14), (4, false, 14), (5, false, 14), (6, false, 14), (7, false, 14), (8, false, 14), (9, false, 14), (10, false, 14), (11, false, 14), (12, false, 14), (13, false, 14), (14, true, 0), (15, false, 999), (16, false, 999)] (by kernel_rfl) (by kernel_rfl) ?_
    iterate 3 (refine af rfl rfl (fun K hK => ?_); (first | ((refine aj _ _ rfl _ _ rfl _ vr.out ?_); go_simp) | go_simp); refine hK _ ?_; clear hK K)
    iterate 3 (first | (refine aq rfl rfl ?_; simp only [Act.put, Ei, Ej, Ek, El, Em, En]) | (refine am rfl rfl (fun K hK => ?_); (first | ((refine aj _ _ rfl _ _ rfl _ vr.out ?_); go_simp) | go_simp); refine hK _ ?_; clear hK K))
    iterate 2 (refine af rfl rfl (fun K hK => ?_); (first | ((refine aj _ _ rfl _ _ rfl _ vr.out ?_); go_simp) | go_simp); refine hK _ ?_; clear hK K)
    iterate 6 (first | (refine aq rfl rfl ?_; simp only [Act.put, Ei, Ej, Ek, El, Em, En]) | (refine am rfl rfl (fun K hK => ?_); (first | ((refine aj _ _ rfl _ _ rfl _ vr.out ?_); go_simp) | go_simp); refine hK _ ?_; clear hK K))
    refine al rfl ?_
    refine aw rfl (fun K hK => ?_)
    go_simp
    refine zg.out.mono ?_
    rintro e9 w9 ⟨D9, rfl, hle9, hs9⟩
    have wq := Eh hle9
    have vu := Eh hs9
    clear hle9 hs9 zg vr c0 c1 c2 c3
    refine hK _ _ ?_
    clear hK K
    refine wpList_nil ?_
    refine And.intro ?_ ?_
    ·go_simp
    first | (refine aq rfl rfl ?_; simp only [Act.put, Ei, Ej, Ek, El, Em, En]) | (refine am rfl rfl (fun K hK => ?_); (first | ((refine aj _ _ rfl _ _ rfl _ vr.out ?_); go_simp) | go_simp); refine hK _ ?_; clear hK K)
    refine af rfl rfl (fun K hK => ?_); (first | ((refine aj _ _ rfl _ _ rfl _ vr.out ?_); go_simp) | go_simp); refine hK _ ?_; clear hK K
    refine ar ?_
    go_wp2_with fail
    go_ret
    rw [vT.out (.inr (.inr (by first | rfl | trivial)))]
    have h10 := vu.out
    have e10 : q1 = m.q := AI.out trivial
    rw [e10] at h10
    exact ⟨D9, rfl, wq.out, (bQ (Ah.out.mono wq.out) (Ai.out.mono wq.out) h10.swap).rm2.rm2.swap.drop⟩
   ·have HY := Eh (Dl.out rfl)
    refine ag [(0, false, 14), (1, false, 14), (2, false, 14), (3, false, 14), (4, false, 14), (5, false, 14), (6, false, 14), (7, false, 14), (8, false, 14), (9, false, 14), (10, false, 14), (11, false, 14), (12, false, 14), (13, false, 14), (14, true, 0), (15, false, 999), (16, false, 999)] (by kernel_rfl) (by kernel_rfl) ?_
    iterate 3 (refine af rfl rfl (fun K hK => ?_); (first | ((refine aj _ _ rfl _ _ rfl _ vr.out ?_); go_simp) | go_simp); refine hK _ ?_; clear hK K)
    iterate 3 (first | (refine aq rfl rfl ?_; simp only [Act.put, Ei, Ej, Ek, El, Em, En]) | (refine am rfl rfl (fun K hK => ?_); (first | ((refine aj _ _ rfl _ _ rfl _ vr.out ?_); go_simp) | go_simp); refine hK _ ?_; clear hK K))
    iterate 2 (refine af rfl rfl (fun K hK => ?_); (first | ((refine aj _ _ rfl _ _ rfl _ vr.out ?_); go_simp) | go_simp); refine hK _ ?_; clear hK K)
    iterate 6 (first | (refine aq rfl rfl ?_; simp only [Act.put, Ei, Ej, Ek, El, Em, En]) | (refine am rfl rfl (fun K hK => ?_); (first | ((refine aj _ _ rfl _ _ rfl _ vr.out ?_); go_simp) | go_simp); refine hK _ ?_; clear hK K))
    refine al rfl ?_
    refine aw rfl (fun K hK => ?_)
    go_simp
    refine zg.out.mono ?_
    rintro e9 w9 ⟨D9, rfl, hle9, hs9⟩
    have wq := Eh hle9
    have vu := Eh (bQ (m := ⟨q1, m.why⟩) (Ah.out.mono hle9) (Ai.out.mono hle9) hs9.swap)
    clear hle9 hs9 zg vr Ah Ai c0 c1 c2 c3
    refine hK _ _ ?_
    clear hK K
    refine wpList_nil ?_
    refine And.intro ?_ ?_
    ·go_simp
    first | (refine aq rfl rfl ?_; simp only [Act.put, Ei, Ej, Ek, El, Em, En]) | (refine am rfl rfl (fun K hK => ?_); (first | ((refine aj _ _ rfl _ _ rfl _ vr.out ?_); go_simp) | go_simp); refine hK _ ?_; clear hK K)
    refine af rfl rfl (fun K hK => ?_); (first | ((refine aj _ _ rfl _ _ rfl _ vr.out ?_); go_simp) | go_simp); refine hK _ ?_; clear hK K
    refine ar ?_
    go_upto_region 16 with fail
    have vX := Eh (az (w := w9.drew) (ak (vu.out.drew.blk 2 rfl)))
    have Aj := Eh (pT (m := ⟨q1, m.why⟩) o (fa table (fA R)) (cu 3 0) BT.out (kJ D9 _ _) vu.out.drew)
    rw [qF] at Aj
    clear vu
    refine ag [(0, false, 4), (1, false, 4), (2, false, 4), (3, true, 0), (4, true, 0)] (by kernel_rfl) (by kernel_rfl) ?_
    iterate 3 (refine af rfl rfl (fun K hK => ?_); (first | ((refine aj _ _ rfl _ _ rfl _ vX.out ?_); go_simp) | go_simp); refine hK _ ?_; clear hK K)
    refine al rfl ?_
    refine aw rfl (fun K hK => ?_)
    go_simp
    refine (i5 3 0).mono ?_
    rintro e11 w11 ⟨rfl, rfl⟩
    refine hK _ _ ?_
    clear hK K
    refine wpList_nil ?_
    refine And.intro ?_ ?_
    ·(refine bC ?_ (bC ?_ (bC ?_ (by unfold dF; trivial))) <;> first | exact ip _ _ rfl _ _ rfl _ vX.out rfl | go_simp)
    refine al rfl ?_
    refine aw rfl (fun K hK => ?_)
    go_simp
    refine Aj.out.mono ?_
    rintro e12 w12 ⟨rfl, hs12⟩
    have AF := Eh (ld o (bY table) (enters_of Tryz.func50 (by kernel_rfl) rfl) (uo (B := B) (D := D9) 2 rfl) hs12)
    clear hs12 Aj vX
    refine hK _ _ ?_
    clear hK K
    refine wpList_nil ?_
    refine And.intro ?_ ?_
    ·go_simp
    refine ar ?_
    go_upto_region 18 with (go_at_call 52; refine AF.out.mono ?_; rintro e13 w13 ⟨rfl, hs13⟩; have wZ := Eh (rf o (bY table) (HD.out.mono wq.out) (by have := yx.out; have := CI.out; show q1.held.length + q1.waits.length ≤ 1000; dsimp only at *; omega) (enters_of Tryz.func50 (by kernel_rfl) rfl) (uo (B := B) (D := D9) 3 rfl) hs13); clear hs13 AF)
    go_wp2_with (go_at_call 53; refine wZ.out.mono ?_; rintro e14 w14 ⟨v14, D14, rfl, hle14, hs14⟩; have BW := Eh hle14; have wh := Eh hs14; clear hle14 hs14 wZ)
    go_ret
    rw [HY.out]
    refine ⟨D14, rfl, wq.out.trans BW.out, ?_⟩
    have h15 := wh.out.rm2.rm2.rm2.swap.drop
    have hrk : bB q1 o table = R := by
     have := o8 (q := m.q) (o := o) (table := table) (c := dB table R) rfl o
     rw [hask] at this
     rw [← BV.out]; exact this
    have e : (my ⟨q1, bI (di m.why o (dB table R) (cu 3 0)) o (bY table)⟩ o (bY table)).1 = ⟨(aY RC q1 (cq o R)).1, bI (di m.why o (dB table R) 8) o (bY table)⟩ := by
     unfold my
     dsimp only
     rw [show (aN q1 o).filter (bY table) = R from hrk]
     rfl
    rw [e] at h15
    exact h15
end Go.Proofs.YtgljdkjepdknnaaGreatDoor
