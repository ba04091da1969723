/- The document's locks: whether an owner holds a claim that is the same; ending a reason (ratlineref11.Locks.has, over). (printed by genrk3.py) -/
import Derived.Test.YtgljdkjepdknnaaGreatDoorMT34
import Derived.Test.YtgljdkjepdknnaaGreatDoorMT33
set_option maxHeartbeats 64000000
namespace Go.Proofs.YtgljdkjepdknnaaGreatDoor
open Go.ChangeShapes Go.WideShapes Go.ChangeAt Go.RowKit
set_option maxRecDepth 100000
set_option linter.unusedSimpArgs false
theorem oY {B w : World} {D : PH} {l : List HP} {v : Value} {d : DocM} (o : Int) (c : ClmE) (hd : DocD D v d) (hc : ClOk D c) (hM : d.q.held.length ≤ 1000) (s : Sat B D w l) :
  Calls Tryz.prog 100 #[v, .int .i64 o, .agg c.cells.toArray] w fun r w' => r = .returned (.bool ((aE d.q o).any (fun h => RC.same h c.c))) ∧ Sat B D w' l := by
 obtain ⟨ta, ha, wa, ra, tc, hcc, wc, rc, hs, ws, es, rfl, _, hh, hw, hhq, hwq, _, _, hs1⟩ := kE hd s
 obtain ⟨W1, hW1, hs2⟩ := Sat.hide (hs1.alloc c.cells.toArray tCl)
 rw [World.size_alloc] at hs2
 have sR := BO hW1
 have sS := BO hs2
 have ue := BO (gZ (v := .agg #[.slice ha hs.length hcc, .slice wa ws.length wc]) o ⟨_, _, hs, ws, rfl, hh, hw, hhq, hwq⟩ hM hs2)
 have HC := BO hc
 obtain ⟨rr, hrr⟩ : ∃ rr, rr = (aE d.q o).any (fun h => RC.same h c.c) := ⟨_, rfl⟩
 rw [← hrr]
 have tl := BO hrr
 clear hd s hs1 hs2 hW1 hc hh hw hhq hwq hrr
 go_enter Tryz.func100, Tryz.ntmps100
 go_upto_region 1 with fail
 rw [← sR.out]
 clear sR
 generalize w.heap.size + 1 = b2 at *
 generalize w.heap.size = b1 at *
 obtain ⟨q0, q1, q2, q3, q4, qf⟩ := aZ (sS.out.blk 1 rfl)
 go_upto_region 2 with (go_at_call 34; refine ue.out.mono ?_; rintro e1 w1 ⟨hv1, cs, D1, rfl, hle, hcs, hmap, hs3⟩; have tt := BO hle; have ui := BO hcs; have yk := BO hmap; obtain ⟨ca, cc, rfl⟩ := hcs.1.shape; have sU := BO hs3; clear hle hcs hmap hs3 ue sS q0 q1 q2 q3 q4 qf)
 obtain ⟨N, hN⟩ : ∃ N, cs.length = N := ⟨_, rfl⟩
 have HN := BO hN
 have hml := ui.out.1.len
 rw [hN] at ui hml ⊢
 have A6 := BO (show (aE d.q o).any (fun h => RC.same h c.c) = cs.any (fun x => RC.same x.c c.c) by rw [← yk.out, List.any_map]; rfl)
 clear hN
 go_wp2_with fail
 go_loopw [8] (fun i wr => ∃ j : Nat, i = .int .i64 j ∧ j ≤ N ∧ (cs.take j).any (fun x => RC.same x.c c.c) = false ∧ Sat B D1 wr (blk b2 c.cells.toArray tCl :: blk b1 #[.slice ta d.ts.length tc, .int .i64 d.room, .slice ha hs.length hcc, .slice wa ws.length wc, .slice ra es.length rc] aP :: l)) (fun i _ => N - (intOf i).toNat)
 case atStart => exact ⟨0, rfl, by omega, rfl, sU.out⟩
 case round =>
  obtain ⟨j, rfl, hj, hno, hs4⟩ := hrel
  have tK := BO hno
  have sY := BO hs4
  clear hno hs4 sU
  by_cases hlt : j < N
  ·have hii : (j : Int) < (N : Int) := by omega
   obtain ⟨x, hx⟩ : ∃ x, cs[j]? = some x := ⟨cs[j]'(by rw [HN.out]; exact hlt), List.getElem?_eq_getElem _⟩
   obtain ⟨g, og, rfl, hrng⟩ := aD ClmE.len (by have := ui.out.1.rd sY.out.drew; rw [HN.out] at this; exact this) hx HN.out
   have th := BO (ay (w := wr.drew) hrng)
   have tg := BO (ay (w := wr.drew) (ai (sY.out.drew.blk 0 rfl)))
   have tD := BO (el ((ui.out.2 x (List.mem_of_getElem? hx)).rd sY.out.drew) ((HC.out.mono tt.out).rd sY.out.drew))
   have uH := BO (show (cs.take (j + 1)).any (fun x => RC.same x.c c.c) = RC.same x.c c.c by rw [List.take_add_one, hx, List.any_append, tK.out]; simp)
   have we := BO (List.mem_of_getElem? hx)
   clear hx hrng
   go_upto_region 5 with fail
   cases hsm : RC.same x.c c.c
   ·rw [hsm] at tD uH
    have t8 := BO hsm
    clear hsm
    refine af [(0, false, 5), (1, false, 5), (2, false, 5), (3, false, 5), (4, false, 5), (5, true, 0), (6, false, 999)] (by kernel_rfl) (by kernel_rfl) ?_
    iterate 5 (refine ae rfl rfl (fun K hK => ?_); (first | ((refine aj _ _ rfl _ _ rfl _ th.out ?_); go_simp) | ((refine aj _ _ rfl _ _ rfl _ tg.out ?_); go_simp) | go_simp); refine hK _ ?_; clear hK K)
    refine al rfl ?_
    refine aw rfl (fun K hK => ?_)
    go_simp
    refine tD.out.mono ?_
    rintro e4 w4 ⟨rfl, hk4⟩
    have sV := BO (sY.out.drew.kept hk4)
    clear hk4 tD th tg sY
    refine hK _ _ ?_
    clear hK K
    refine wpList_nil ?_
    refine And.intro ?_ ?_
    ·go_simp
    refine ae rfl rfl (fun K hK => ?_); (first | ((refine aj _ _ rfl _ _ rfl _ th.out ?_); go_simp) | ((refine aj _ _ rfl _ _ rfl _ tg.out ?_); go_simp) | go_simp); refine hK _ ?_; clear hK K
    refine ap ?_
    go_wp2_with fail
    go_roundw
    case rel => exact ⟨j + 1, by go_num, by omega, uH.out, sV.out⟩
    case measure => simp [intOf]; omega
   ·rw [hsm] at tD
    have HT := BO (show cs.any (fun x => RC.same x.c c.c) = true from List.any_eq_true.2 ⟨x, we.out, hsm⟩)
    clear hsm
    refine af [(0, false, 5), (1, false, 5), (2, false, 5), (3, false, 5), (4, false, 5), (5, true, 0), (6, false, 999)] (by kernel_rfl) (by kernel_rfl) ?_
    iterate 5 (refine ae rfl rfl (fun K hK => ?_); (first | ((refine aj _ _ rfl _ _ rfl _ th.out ?_); go_simp) | ((refine aj _ _ rfl _ _ rfl _ tg.out ?_); go_simp) | go_simp); refine hK _ ?_; clear hK K)
    refine al rfl ?_
    refine aw rfl (fun K hK => ?_)
    go_simp
    refine tD.out.mono ?_
    rintro e4 w4 ⟨rfl, hk4⟩
    have sV := BO (sY.out.drew.kept hk4)
    clear hk4 tD th tg sY
    refine hK _ _ ?_
    clear hK K
    refine wpList_nil ?_
    refine And.intro ?_ ?_
    ·go_simp
    refine ae rfl rfl (fun K hK => ?_); (first | ((refine aj _ _ rfl _ _ rfl _ th.out ?_); go_simp) | ((refine aj _ _ rfl _ _ rfl _ tg.out ?_); go_simp) | go_simp); refine hK _ ?_; clear hK K
    refine ap ?_
    go_wp2_with fail
    go_ret
    exact ⟨by rw [tl.out, A6.out, HT.out]; rfl, sV.out.drop.drop.less tt.out⟩
  ·have hii : ¬ ((j : Int) < (N : Int)) := by omega
   have HT := BO (show cs.any (fun x => RC.same x.c c.c) = false by have := tK.out; rwa [List.take_of_length_le (by rw [HN.out]; omega)] at this)
   go_wp2_with fail
   go_ret
   exact ⟨by rw [tl.out, A6.out, HT.out]; rfl, sY.out.drop.drop.less tt.out⟩
def g3 (B : World) (D : PH) (l : List HP) (d : DocM) (os : List Int) (r : Ending) (w' : World) : Prop := ∃ (v iv : Value) (D' : PH), r = .returned (.tuple #[v, iv]) ∧ PH.le D D' ∧ DocD D' v d ∧ Sat B D' w' (cq iv os :: l)
noncomputable def dX (d : DocM) (o dur hand : Int) : DocM × List Int :=
 (⟨d.ts, d.room, (a8 RC d.q (bT o ((aE d.q o).filter (fun c => !cI (cT d.r o dur hand) o c)))).1, cT d.r o dur hand⟩, (a8 RC d.q (bT o ((aE d.q o).filter (fun c => !cI (cT d.r o dur hand) o c)))).2)
def gy (o dur hand : Int) (e : ReaE) : Bool := decide (e.o ≠ o) || decide (e.dur ≠ dur) || decide (e.hand ≠ hand)
theorem Sat.set5q {B w : World} {D : PH} {l : List HP} {b : Nat} {t : TypeId} {y0 y1 y2 y3 y4 : Value} (hs : Sat B D w (Proofs.YtgljdkjepdknnaaGreatDoor.blk b #[y0, y1, y2, y3, y4] t :: l)) (u v : Value) : Sat B D ((w.setCell ⟨b, 2, none⟩ u).setCell ⟨b, 3, none⟩ v) (Proofs.YtgljdkjepdknnaaGreatDoor.blk b #[y0, y1, u, v, y4] t :: l) := (hs.set 2 u).set 3 v
theorem boxE {w : World} {b : Nat} {e : ReaE} {t : TypeId} {fr : Nat × Nat} (h : w.heap[b]? = some (.cells (aX e).toArray t fr)) : w.cell? ⟨b, 0, none⟩ = some (.int .i64 e.o) ∧ w.cell? ⟨b, 17, none⟩ = some (.int .i64 e.dur) ∧ w.cell? ⟨b, 18, none⟩ = some (.int .i64 e.hand) := by
 refine ⟨?_, ?_, ?_⟩ <;> simp [World.cell?, h, aX]
theorem jZ {B w : World} {D : PH} {l : List HP} {v : Value} {d : DocM} (o dur hand : Int) (hd : DocD D v d) (hM : d.r.length ≤ 1000) (hQ : d.q.held.length + d.q.waits.length ≤ 1000) (s : Sat B D w l) :
  Calls Tryz.prog 97 #[v, .int .i64 o, .int .i64 dur, .int .i64 hand] w (g3 B D l (dX d o dur hand).1 (dX d o dur hand).2) := by
 obtain ⟨i0, hi, hz0, hz1, hz2⟩ := info_parts iC
 have HI := BO (And.intro hi (And.intro hz0 (And.intro hz1 hz2)))
 obtain ⟨i1, gi, gz0, gz1, gz2⟩ := info_parts kz
 have uY := BO (And.intro gi (And.intro gz0 (And.intro gz1 gz2)))
 obtain ⟨ta, ha, wa, ra, tc, hcc, wc, rc, hs, ws, es, rfl, ht, hh, hw, hhq, hwq, hr, hrr, _⟩ := kE hd s
 have hel : es.length ≤ 1000 := by rw [← List.length_map (f := hJ), hrr]; exact hM
 obtain ⟨N, hN⟩ : ∃ N, es.length = N := ⟨_, rfl⟩
 have HN := BO hN
 rw [hN] at hr hel ⊢
 obtain ⟨W1, hW1, hs1⟩ := cy s #[.slice ta d.ts.length tc, .int .i64 d.room, .slice ha hs.length hcc, .slice wa ws.length wc, .slice ra N rc] cd aP aP
 have sR := BO hW1
 have sS := BO (show Sat B D W1 (gS (.slice none 0 0) [] :: _) from hs1.own_nil bY 19)
 have HR := BO hr
 have zX := BO ht
 have xV := BO (And.intro hh (And.intro hw (And.intro hhq hwq)))
 have wE := BO (show (es.filter (gy o dur hand)).map hJ = cT d.r o dur hand by unfold cT; rw [← hrr, List.filter_map]; rfl)
 clear hd s hs1 hW1 hr hrr hN ht hh hw hhq hwq hi hz0 hz1 hz2 gi gz0 gz1 gz2
 go_enter Tryz.func97, Tryz.ntmps97
 go_upto_region 1 with fail
 rw [← sR.out]
 clear sR
 generalize w.heap.size + 1 = b2 at *
 generalize w.heap.size = b1 at *
 go_wp2_with fail
 go_loopw [10, 11] (fun ot i wr => ∃ (j : Nat) (oa : Option Addr) (oc : Nat) (zs : List ReaE), i = .int .i64 j ∧ ot = .slice oa zs.length oc ∧ j ≤ N ∧ zs = (es.take j).filter (gy o dur hand) ∧ Sat B D wr (gS (.slice oa zs.length oc) zs :: blk b1 #[.slice ta d.ts.length tc, .int .i64 d.room, .slice ha hs.length hcc, .slice wa ws.length wc, .slice ra N rc] aP :: blk b2 cd aP :: l)) (fun _ i _ => N - (intOf i).toNat)
 case atStart => exact ⟨0, none, 0, [], rfl, rfl, by omega, rfl, sS.out⟩
 case round =>
  obtain ⟨j, oa, oc, zs, rfl, rfl, hj, hzs, hs3⟩ := hrel
  have hle : zs.length ≤ j := by rw [hzs]; exact Nat.le_trans (List.length_filter_le _ _) (by rw [List.length_take]; omega)
  have tY := BO hzs
  have sU := BO hs3
  clear hzs hs3 sS
  obtain ⟨q0, q1, q2, q3, q4, qf⟩ := aZ (sU.out.blk 1 rfl)
  by_cases hlt : j < N
  ·have hii : (j : Int) < (N : Int) := by omega
   obtain ⟨x, hx⟩ : ∃ x, es[j]? = some x := ⟨es[j]'(by rw [HN.out]; exact hlt), List.getElem?_eq_getElem _⟩
   obtain ⟨g, og, rfl, hrng⟩ := aD dg (by have := HR.out.1.rd sU.out; rw [HN.out] at this; exact this) hx HN.out
   have HL := BO (jj hrng)
   have HX := BO hx
   have sY := BO (sU.out.alloc (aX x).toArray bY)
   clear hx hrng
   go_upto_region 6 with (first | (refine ag rfl _ _ rfl _ _ rfl _ HL.out ?_) | (refine ax rfl _ _ _ rfl (aX x) _ _ rfl rfl (by kernel_rfl) rfl (ju x) ?_))
   obtain ⟨W5, hW5, hs5⟩ := Sat.hide sY.out
   rw [← hW5]
   clear hW5 sY sU HL q0 q1 q2 q3 q4 qf
   generalize wr.heap.size = bx at hs5 ⊢
   obtain ⟨x0, x17, x18⟩ := boxE (hs5.blk 0 rfl)
   have sV := BO hs5
   clear hs5
   by_cases ho : x.o = o
   ·have hne : (x.o != o) = false := by simpa using ho
    by_cases hd : x.dur = dur
    ·have hne2 : (x.dur != dur) = false := by simpa using hd
     by_cases hh : x.hand = hand
     ·have hne3 : (x.hand != hand) = false := by simpa using hh
      have HT := BO (aQ (q := gy o dur hand) HX.out (by unfold gy; simp [ho, hd, hh]))
      clear ho hd hh
      go_wp2_with fail
      go_roundw
      case rel => exact ⟨j + 1, oa, oc, zs, by go_num, rfl, by omega, by rw [HT.out]; exact tY.out, sV.out.drop⟩
      case measure => simp [intOf]; omega
     ·have hne3 : (x.hand != hand) = true := by simpa using hh
      have HT := BO (aO (q := gy o dur hand) HX.out (by unfold gy; simp [hh]))
      have HL := BO (jj (ai (sV.out.blk 0 rfl)))
      have s0 := BO ((sV.out.alloc (aX x).toArray bY).front 2 rfl)
      have s5 := BO (aT (size := 19) (n := 1) (s0.out.blk 1 rfl) (by simp [dg]) (by unfold maxLen; omega))
      clear sV ho hd hh
      go_wp2_with (first | (refine ag rfl _ _ rfl _ _ rfl _ HL.out ?_) | (refine aC rfl _ _ rfl bY i0 _ (aX x) rfl Tryz.underlying59 HI.out.1 HI.out.2.1 (HI.out.2.2.1.trans rfl) (by rw [dg]; decide) (by rw [dg]; decide) ?_) | (at_builtin; refine ar _ rfl _ _ fy rfl bY i0 _ 19 208 Tryz.underlying59 HI.out.1 HI.out.2.1 HI.out.2.2.1 HI.out.2.2.2 rfl _ zs.length _ rfl s0.out _ 1 _ rfl s5.out (by simpa using ju x) (by unfold maxLen; omega) (by omega) ?_; intro v11 w11 hs11 h11; obtain ⟨va, vc, rfl⟩ := hs11.own_shape; have s6 := BO hs11; clear hs11 h11 s0 s5 HL))
      go_roundw
      case rel =>
       refine ⟨j + 1, va, vc, zs ++ [x], by go_num, by rw [List.length_append]; rfl, by omega, by rw [HT.out, tY.out], ?_⟩
       show Sat B D w11 (aJ bY 19 (.slice va (zs ++ [x]).length vc) (zs ++ [x]).length ((zs ++ [x]).flatMap aX) :: _)
       rw [List.length_append, List.flatMap_append]
       have h9 := ((s6.out.front 2 rfl).drop.front 1 rfl).drop
       simpa using h9
      case measure => simp [intOf]; omega
    ·have hne2 : (x.dur != dur) = true := by simpa using hd
     have HT := BO (aO (q := gy o dur hand) HX.out (by unfold gy; simp [hd]))
     have HL := BO (jj (ai (sV.out.blk 0 rfl)))
     have s0 := BO ((sV.out.alloc (aX x).toArray bY).front 2 rfl)
     have s5 := BO (aT (size := 19) (n := 1) (s0.out.blk 1 rfl) (by simp [dg]) (by unfold maxLen; omega))
     clear sV ho hd
     go_wp2_with (first | (refine ag rfl _ _ rfl _ _ rfl _ HL.out ?_) | (refine aC rfl _ _ rfl bY i0 _ (aX x) rfl Tryz.underlying59 HI.out.1 HI.out.2.1 (HI.out.2.2.1.trans rfl) (by rw [dg]; decide) (by rw [dg]; decide) ?_) | (at_builtin; refine ar _ rfl _ _ fy rfl bY i0 _ 19 208 Tryz.underlying59 HI.out.1 HI.out.2.1 HI.out.2.2.1 HI.out.2.2.2 rfl _ zs.length _ rfl s0.out _ 1 _ rfl s5.out (by simpa using ju x) (by unfold maxLen; omega) (by omega) ?_; intro v11 w11 hs11 h11; obtain ⟨va, vc, rfl⟩ := hs11.own_shape; have s6 := BO hs11; clear hs11 h11 s0 s5 HL))
     go_roundw
     case rel =>
      refine ⟨j + 1, va, vc, zs ++ [x], by go_num, by rw [List.length_append]; rfl, by omega, by rw [HT.out, tY.out], ?_⟩
      show Sat B D w11 (aJ bY 19 (.slice va (zs ++ [x]).length vc) (zs ++ [x]).length ((zs ++ [x]).flatMap aX) :: _)
      rw [List.length_append, List.flatMap_append]
      have h9 := ((s6.out.front 2 rfl).drop.front 1 rfl).drop
      simpa using h9
     case measure => simp [intOf]; omega
   ·have hne : (x.o != o) = true := by simpa using ho
    have HT := BO (aO (q := gy o dur hand) HX.out (by unfold gy; simp [ho]))
    have HL := BO (jj (ai (sV.out.blk 0 rfl)))
    have s0 := BO ((sV.out.alloc (aX x).toArray bY).front 2 rfl)
    have s5 := BO (aT (size := 19) (n := 1) (s0.out.blk 1 rfl) (by simp [dg]) (by unfold maxLen; omega))
    clear sV ho
    go_wp2_with (first | (refine ag rfl _ _ rfl _ _ rfl _ HL.out ?_) | (refine aC rfl _ _ rfl bY i0 _ (aX x) rfl Tryz.underlying59 HI.out.1 HI.out.2.1 (HI.out.2.2.1.trans rfl) (by rw [dg]; decide) (by rw [dg]; decide) ?_) | (at_builtin; refine ar _ rfl _ _ fy rfl bY i0 _ 19 208 Tryz.underlying59 HI.out.1 HI.out.2.1 HI.out.2.2.1 HI.out.2.2.2 rfl _ zs.length _ rfl s0.out _ 1 _ rfl s5.out (by simpa using ju x) (by unfold maxLen; omega) (by omega) ?_; intro v11 w11 hs11 h11; obtain ⟨va, vc, rfl⟩ := hs11.own_shape; have s6 := BO hs11; clear hs11 h11 s0 s5 HL))
    go_roundw
    case rel =>
     refine ⟨j + 1, va, vc, zs ++ [x], by go_num, by rw [List.length_append]; rfl, by omega, by rw [HT.out, tY.out], ?_⟩
     show Sat B D w11 (aJ bY 19 (.slice va (zs ++ [x]).length vc) (zs ++ [x]).length ((zs ++ [x]).flatMap aX) :: _)
     rw [List.length_append, List.flatMap_append]
     have h9 := ((s6.out.front 2 rfl).drop.front 1 rfl).drop
     simpa using h9
    case measure => simp [intOf]; omega
  ·have hji : ¬ ((j : Int) < (N : Int)) := by omega
   have HT := BO (show zs = es.filter (gy o dur hand) by rw [tY.out, List.take_of_length_le (by rw [HN.out]; omega)])
   have sY := BO (Sat.set5e (sU.out.front 1 rfl) (.slice oa zs.length oc))
   go_upto_region 9 with fail
   obtain ⟨W8, hW8, hs8⟩ := Sat.hide sY.out
   rw [← hW8]
   clear hW8 sY sU q0 q1 q2 q3 q4 qf
   obtain ⟨D2, hle2, hE2, hs9⟩ := eO (hs8.front 1 rfl) (fun e he => by rw [tY.out] at he; exact HR.out.2 e (List.mem_of_mem_take (List.mem_filter.1 he).1))
   obtain ⟨q0, q1, q2, q3, q4, qf⟩ := aZ (hs9.blk 0 rfl)
   have zy := BO (show QueD D2 (.agg #[.slice ha hs.length hcc, .slice wa ws.length wc]) d.q from ⟨_, _, hs, ws, rfl, xV.out.1.mono hle2, xV.out.2.1.mono hle2, xV.out.2.2.1, xV.out.2.2.2⟩)
   have ue := BO (gZ o zy.out (by omega) hs9)
   have tr := BO hle2
   have vk := BO hE2
   clear hs8 hle2 hE2
   have Au := BO (show DocD D2 (.agg #[.slice ta d.ts.length tc, .int .i64 d.room, .slice ha hs.length hcc, .slice wa ws.length wc, .slice oa zs.length oc]) ⟨d.ts, d.room, d.q, cT d.r o dur hand⟩ from ⟨_, _, _, _, zs, rfl, zX.out.mono tr.out, zy.out, vk.out, by rw [HT.out]; exact wE.out⟩)
   clear hs9
   go_upto_region 10 with (go_at_call 34; refine ue.out.mono ?_; rintro e10 w10 ⟨hv10, cs, D3, rfl, hle3, hcs, hmap, hs10⟩; have vo := BO hle3; have ui := BO hcs; have yk := BO hmap; obtain ⟨ca, cc, rfl⟩ := hcs.1.shape; have s9 := BO (show Sat B D3 w10 (dI (.slice none 0 0) [] :: _) from hs10.own_nil tCl 16); clear hle3 hcs hmap hs10 ue q0 q1 q2 q3 q4 qf)
   obtain ⟨M, hM2⟩ : ∃ M, cs.length = M := ⟨_, rfl⟩
   have HM := BO hM2
   have hml : M ≤ 1000 := by
    have h1 := congrArg List.length yk.out
    rw [List.length_map, hM2] at h1
    unfold aE at h1
    rw [List.length_map] at h1
    have h2 := List.length_filter_le (ofE o) d.q.held
    omega
   rw [hM2] at ui ⊢
   clear hM2
   go_wp2_with fail
   go_loopw [14, 15] (fun ot2 i2 wr2 => ∃ (k : Nat) (ga : Option Addr) (gc : Nat) (ds : List ClmE), i2 = .int .i64 k ∧ ot2 = .slice ga ds.length gc ∧ k ≤ M ∧ ds = (cs.take k).filter (fun c => !cI (cT d.r o dur hand) o c.c) ∧ Sat B D3 wr2 (dI (.slice ga ds.length gc) ds :: blk b1 #[.slice ta d.ts.length tc, .int .i64 d.room, .slice ha hs.length hcc, .slice wa ws.length wc, .slice oa zs.length oc] aP :: blk b2 cd aP :: l)) (fun _ i2 _ => M - (intOf i2).toNat)
   case atStart => exact ⟨0, none, 0, [], rfl, rfl, by omega, rfl, s9.out⟩
   case round =>
    obtain ⟨k, ga, gc, ds, rfl, rfl, hk, hds, hs11⟩ := hrel
    have hled : ds.length ≤ k := by rw [hds]; exact Nat.le_trans (List.length_filter_le _ _) (by rw [List.length_take]; omega)
    have wy := BO hds
    have s6 := BO hs11
    clear hds hs11 s9
    by_cases hlt2 : k < M
    ·have hii2 : (k : Int) < (M : Int) := by omega
     obtain ⟨x, hx⟩ : ∃ x, cs[k]? = some x := ⟨cs[k]'(by rw [HM.out]; exact hlt2), List.getElem?_eq_getElem _⟩
     obtain ⟨g, og, rfl, hrng⟩ := aD ClmE.len (by have := ui.out.1.rd s6.out.drew; rw [HM.out] at this; exact this) hx HM.out
     have th := BO (ay (w := wr.drew) hrng)
     have tm := BO (aF (w := wr.drew) (s6.out.drew.blk 1 rfl))
     have wL := BO (oJ o x (Au.out.mono vo.out) (ui.out.2 x (List.mem_of_getElem? hx)) s6.out.drew)
     have HX := BO hx
     obtain ⟨q0, q1, q2, q3, q4, qf⟩ := aZ (s6.out.blk 1 rfl)
     clear hx hrng
     go_upto_region 14 with fail
     obtain ⟨rs, hrs⟩ : ∃ rs, rs = cI (cT d.r o dur hand) o x.c := ⟨_, rfl⟩
     have wT := BO hrs
     rw [show (DocM.mk d.ts d.room d.q (cT d.r o dur hand)).r = cT d.r o dur hand from rfl, ← hrs] at wL
     clear hrs
     refine af [(0, false, 6), (1, false, 6), (2, false, 6), (3, false, 6), (4, false, 6), (5, false, 6), (6, true, 0), (7, false, 999)] (by kernel_rfl) (by kernel_rfl) ?_
     iterate 6 (refine ae rfl rfl (fun K hK => ?_); (first | ((refine aj _ _ rfl _ _ rfl _ th.out ?_); go_simp) | ((refine aj _ _ rfl _ _ rfl [_,_,_,_,_] tm.out ?_); go_simp) | go_simp); refine hK _ ?_; clear hK K)
     refine al rfl ?_
     refine aw rfl (fun K hK => ?_)
     go_simp
     refine wL.out.mono ?_
     rintro e12 w12 ⟨rfl, hs12⟩
     have tT := BO hs12
     clear hs12 wL th tm s6 q0 q1 q2 q3 q4 qf
     refine hK _ _ ?_
     clear hK K
     refine wpList_nil ?_
     refine And.intro ?_ ?_
     ·go_simp
     refine ae rfl rfl (fun K hK => ?_); (first | ((refine aj _ _ rfl _ _ rfl _ th.out ?_); go_simp) | ((refine aj _ _ rfl _ _ rfl [_,_,_,_,_] tm.out ?_); go_simp) | go_simp); refine hK _ ?_; clear hK K
     refine ap ?_
     cases rs
     ·have yW := BO (aO (q := fun c : ClmE => !cI (cT d.r o dur hand) o c.c) HX.out (by rw [← wT.out]; rfl))
      obtain ⟨g', og', hg', hrng'⟩ := aD ClmE.len (by have := ui.out.1.rd tT.out; rw [HM.out] at this; exact this) HX.out HM.out
      cases hg'
      have HL := BO (ay hrng')
      have tH := BO ((tT.out.alloc x.cells.toArray tCl).front 1 rfl)
      have s5 := BO (aT (size := 16) (n := 1) (tH.out.blk 1 rfl) rfl (by unfold maxLen; omega))
      clear hrng' tT
      go_wp2_with (first | (refine ag rfl _ _ rfl _ _ rfl _ HL.out ?_) | (refine aC rfl _ _ rfl tCl i1 _ x.cells rfl Tryz.underlying45 uY.out.1 uY.out.2.1 (uY.out.2.2.1.trans rfl) (by rw [ClmE.len]; decide) (by rw [ClmE.len]; decide) ?_) | (at_builtin; refine ar _ rfl _ _ tCs rfl tCl i1 _ 16 184 Tryz.underlying45 uY.out.1 uY.out.2.1 uY.out.2.2.1 uY.out.2.2.2 rfl _ ds.length _ rfl tH.out _ 1 _ rfl s5.out (by simpa using ClmE.one x) (by unfold maxLen; omega) (by omega) ?_; intro v14 w14 hs14 h14; obtain ⟨va, vc, rfl⟩ := hs14.own_shape; have ub := BO hs14; clear hs14 h14 tH s5 HL))
      go_roundw
      case rel =>
       refine ⟨k + 1, va, vc, ds ++ [x], by go_num, by rw [List.length_append]; rfl, by omega, by rw [yW.out, wy.out], ?_⟩
       show Sat B D3 w14 (aJ tCl 16 (.slice va (ds ++ [x]).length vc) (ds ++ [x]).length ((ds ++ [x]).flatMap ClmE.cells) :: _)
       rw [List.length_append, List.flatMap_append]
       have h9 := (ub.out.front 1 rfl).drop
       simpa using h9
      case measure => simp [intOf]; omega
     ·have yW := BO (aQ (q := fun c : ClmE => !cI (cT d.r o dur hand) o c.c) HX.out (by rw [← wT.out]; rfl))
      go_wp2_with fail
      go_roundw
      case rel => exact ⟨k + 1, ga, gc, ds, by go_num, rfl, by omega, by rw [yW.out]; exact wy.out, tT.out⟩
      case measure => simp [intOf]; omega
    ·have hii2 : ¬ ((k : Int) < (M : Int)) := by omega
     have yW := BO (show ds = cs.filter (fun c => !cI (cT d.r o dur hand) o c.c) by rw [wy.out, List.take_of_length_le (by rw [HM.out]; omega)])
     obtain ⟨D4, hle4, hcd, hs12⟩ := iK s6.out (fun c hc => by rw [yW.out] at hc; exact ui.out.2 c (List.mem_filter.1 hc).1)
     have hmap2 : ds.map ClmE.c = (aE d.q o).filter (fun c => !cI (cT d.r o dur hand) o c) := by rw [yW.out, ← yk.out, List.filter_map]; rfl
     have uD := BO (lB o (zy.out.mono (vo.out.trans hle4)) hcd hQ hs12)
     rw [hmap2] at uD
     obtain ⟨q0, q1, q2, q3, q4, qf⟩ := aZ (hs12.blk 0 rfl)
     have tI := BO (tr.out.trans (vo.out.trans hle4))
     have zA := BO (vo.out.trans hle4)
     clear hle4 hcd hs12 hmap2 s6
     go_upto_region 18 with (first | (go_at_call 103; refine uD.out.mono ?_; rintro e15 w15 ⟨v15, iv, D5, rfl, hle5, hq5, hs15⟩; obtain ⟨hv5, wv5, hs5', ws5', rfl, hh5, hw5, hhq5, hwq5⟩ := hq5; obtain ⟨ha5, hc5, rfl⟩ := hh5.1.shape; obtain ⟨wa5, wc5, rfl⟩ := hw5.1.shape; have tz := BO hle5; have zY := BO (And.intro hh5 (And.intro hw5 (And.intro hhq5 hwq5))); have tP := BO (hs15.alloc #[.slice ha5 hs5'.length hc5, .slice wa5 ws5'.length wc5] tRq); clear hle5 hh5 hw5 hhq5 hwq5 hs15 uD q0 q1 q2 q3 q4 qf))
     obtain ⟨W16, hW16, hs16⟩ := Sat.hide tP.out
     rw [← hW16]
     clear hW16 tP
     generalize w15.heap.size = bq at hs16 ⊢
     obtain ⟨p0, p1, pf⟩ := aH (hs16.blk 0 rfl)
     obtain ⟨q0, q1, q2, q3, q4, qf⟩ := aZ (hs16.blk 2 rfl)
     have tM := BO (Sat.set5q (hs16.front 2 rfl) (.slice ha5 hs5'.length hc5) (.slice wa5 ws5'.length wc5))
     clear hs16
     go_upto_region 19 with fail
     obtain ⟨W18, hW18, hs18⟩ := Sat.hide tM.out
     rw [← hW18]
     clear hW18 tM p0 p1 pf q0 q1 q2 q3 q4 qf
     have tm := BO (aF (hs18.blk 0 rfl))
     have vg := BO (hs18.front 3 rfl)
     clear hs18
     go_wp2_with (first | (refine ag rfl _ _ rfl _ _ rfl [_, _, _, _, _] tm.out ?_) | (refine aq rfl _ _ _ rfl aP b2 rfl [.slice ta d.ts.length tc, .int .i64 d.room, .slice ha5 hs5'.length hc5, .slice wa5 ws5'.length wc5, .slice oa zs.length oc] rfl cd vg.out (by kernel_rfl) rfl (by intro u hu; simp at hu; rcases hu with rfl | rfl | rfl | rfl | rfl <;> rfl) ?_; intro w20 hs20; have te := BO hs20; clear hs20 vg))
     refine bodyPost_ret (aL rfl _ _ rfl (aF (te.out.blk 0 rfl))) rfl ?_
     refine ⟨_, _, D5, rfl, tI.out.trans tz.out, ⟨_, _, _, _, zs, rfl, (zX.out.mono tI.out).mono tz.out, ⟨_, _, hs5', ws5', rfl, zY.out.1, zY.out.2.1, zY.out.2.2.1, zY.out.2.2.2⟩, (vk.out.mono zA.out).mono tz.out, by rw [HT.out]; exact wE.out⟩, ?_⟩
     exact te.out.drop.drop.drop
end Go.Proofs.YtgljdkjepdknnaaGreatDoor
