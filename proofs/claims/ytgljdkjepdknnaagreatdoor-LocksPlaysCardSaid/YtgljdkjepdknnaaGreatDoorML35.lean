/- The document's locks: whether an owner holds a claim that is the same; ending a reason (ratlineref11.Locks.has, over). (printed by genrk3.py) -/
import Derived.Test.YtgljdkjepdknnaaGreatDoorML34
import Derived.Test.YtgljdkjepdknnaaGreatDoorML33
set_option maxHeartbeats 64000000
namespace Go.Proofs.YtgljdkjepdknnaaGreatDoor
open Go.ChangeShapes Go.WideShapes Go.ChangeAt Go.RowKit
set_option maxRecDepth 100000
set_option linter.unusedSimpArgs false
theorem rD {B w : World} {D : PH} {l : List HP} {v : Value} {d : DocM} (o : Int) (c : ClmE) (hd : DocD D v d) (hc : ClOk D c) (hM : d.q.held.length ≤ 1000) (s : Sat B D w l) :
  Calls Tryz.prog 100 #[v, .int .i64 o, .agg c.cells.toArray] w fun r w' => r = .returned (.bool ((aN d.q o).any (fun h => RC.same h c.c))) ∧ Sat B D w' l := by
 obtain ⟨ta, ha, wa, ra, tc, hcc, wc, rc, hs, ws, es, rfl, _, hh, hw, hhq, hwq, _, _, hs1⟩ := lC hd s
 obtain ⟨W1, hW1, hs2⟩ := Sat.hide (hs1.alloc c.cells.toArray tCl)
 rw [World.size_alloc] at hs2
 have uW := Eh hW1
 have uX := Eh hs2
 have wH := Eh (gI (v := .agg #[.slice ha hs.length hcc, .slice wa ws.length wc]) o ⟨_, _, hs, ws, rfl, hh, hw, hhq, hwq⟩ hM hs2)
 have HC := Eh hc
 obtain ⟨rr, hrr⟩ : ∃ rr, rr = (aN d.q o).any (fun h => RC.same h c.c) := ⟨_, rfl⟩
 rw [← hrr]
 have vA := Eh hrr
 clear hd s hs1 hs2 hW1 hc hh hw hhq hwq hrr
 go_enter Tryz.func100, Tryz.ntmps100
 go_upto_region 1 with fail
 rw [← uW.out]
 clear uW
 generalize w.heap.size + 1 = b2 at *
 generalize w.heap.size = b1 at *
 obtain ⟨q0, q1, q2, q3, q4, qf⟩ := aT (uX.out.blk 1 rfl)
 go_upto_region 2 with (go_at_call 34; refine wH.out.mono ?_; rintro e1 w1 ⟨hv1, cs, D1, rfl, hle, hcs, hmap, hs3⟩; have vz := Eh hle; have wE := Eh hcs; have AG := Eh hmap; obtain ⟨ca, cc, rfl⟩ := hcs.1.shape; have uY := Eh hs3; clear hle hcs hmap hs3 wH uX q0 q1 q2 q3 q4 qf)
 obtain ⟨N, hN⟩ : ∃ N, cs.length = N := ⟨_, rfl⟩
 have HN := Eh hN
 have hml := wE.out.1.len
 rw [hN] at wE hml ⊢
 have Di := Eh (show (aN d.q o).any (fun h => RC.same h c.c) = cs.any (fun x => RC.same x.c c.c) by rw [← AG.out, List.any_map]; rfl)
 clear hN
 go_wp2_with fail
 go_loopw [8] (fun i wr => ∃ j : Nat, i = .int .i64 j ∧ j ≤ N ∧ (cs.take j).any (fun x => RC.same x.c c.c) = false ∧ Sat B D1 wr (blk b2 c.cells.toArray tCl :: blk b1 #[.slice ta d.ts.length tc, .int .i64 d.room, .slice ha hs.length hcc, .slice wa ws.length wc, .slice ra es.length rc] aQ :: l)) (fun i _ => N - (intOf i).toNat)
 case atStart => exact ⟨0, rfl, by omega, rfl, uY.out⟩
 case round =>
  obtain ⟨j, rfl, hj, hno, hs4⟩ := hrel
  have vT := Eh hno
  have vh := Eh hs4
  clear hno hs4 uY
  by_cases hlt : j < N
  ·have hii : (j : Int) < (N : Int) := by omega
   obtain ⟨x, hx⟩ : ∃ x, cs[j]? = some x := ⟨cs[j]'(by rw [HN.out]; exact hlt), List.getElem?_eq_getElem _⟩
   obtain ⟨g, og, rfl, hrng⟩ := aF ClmE.len (by have := wE.out.1.rd vh.out.drew; rw [HN.out] at this; exact this) hx HN.out
   have vt := Eh (az (w := wr.drew) hrng)
   have vr := Eh (az (w := wr.drew) (ak (vh.out.drew.blk 0 rfl)))
   have vN := Eh (eC ((wE.out.2 x (List.mem_of_getElem? hx)).rd vh.out.drew) ((HC.out.mono vz.out).rd vh.out.drew))
   have xd := Eh (show (cs.take (j + 1)).any (fun x => RC.same x.c c.c) = RC.same x.c c.c by rw [List.take_add_one, hx, List.any_append, vT.out]; simp)
   have yG := Eh (List.mem_of_getElem? hx)
   clear hx hrng
   go_upto_region 5 with fail
   cases hsm : RC.same x.c c.c
   ·rw [hsm] at vN xd
    have wx := Eh hsm
    clear hsm
    refine ag [(0, false, 5), (1, false, 5), (2, false, 5), (3, false, 5), (4, false, 5), (5, true, 0), (6, false, 999)] (by kernel_rfl) (by kernel_rfl) ?_
    iterate 5 (refine af rfl rfl (fun K hK => ?_); (first | ((refine aj _ _ rfl _ _ rfl _ vt.out ?_); go_simp) | ((refine aj _ _ rfl _ _ rfl _ vr.out ?_); go_simp) | go_simp); refine hK _ ?_; clear hK K)
    refine al rfl ?_
    refine aw rfl (fun K hK => ?_)
    go_simp
    refine vN.out.mono ?_
    rintro e4 w4 ⟨rfl, hk4⟩
    have uZ := Eh (vh.out.drew.kept hk4)
    clear hk4 vN vt vr vh
    refine hK _ _ ?_
    clear hK K
    refine wpList_nil ?_
    refine And.intro ?_ ?_
    ·go_simp
    refine af rfl rfl (fun K hK => ?_); (first | ((refine aj _ _ rfl _ _ rfl _ vt.out ?_); go_simp) | ((refine aj _ _ rfl _ _ rfl _ vr.out ?_); go_simp) | go_simp); refine hK _ ?_; clear hK K
    refine ar ?_
    go_wp2_with fail
    go_roundw
    case rel => exact ⟨j + 1, by go_num, by omega, xd.out, uZ.out⟩
    case measure => simp [intOf]; omega
   ·rw [hsm] at vN
    have HT := Eh (show cs.any (fun x => RC.same x.c c.c) = true from List.any_eq_true.2 ⟨x, yG.out, hsm⟩)
    clear hsm
    refine ag [(0, false, 5), (1, false, 5), (2, false, 5), (3, false, 5), (4, false, 5), (5, true, 0), (6, false, 999)] (by kernel_rfl) (by kernel_rfl) ?_
    iterate 5 (refine af rfl rfl (fun K hK => ?_); (first | ((refine aj _ _ rfl _ _ rfl _ vt.out ?_); go_simp) | ((refine aj _ _ rfl _ _ rfl _ vr.out ?_); go_simp) | go_simp); refine hK _ ?_; clear hK K)
    refine al rfl ?_
    refine aw rfl (fun K hK => ?_)
    go_simp
    refine vN.out.mono ?_
    rintro e4 w4 ⟨rfl, hk4⟩
    have uZ := Eh (vh.out.drew.kept hk4)
    clear hk4 vN vt vr vh
    refine hK _ _ ?_
    clear hK K
    refine wpList_nil ?_
    refine And.intro ?_ ?_
    ·go_simp
    refine af rfl rfl (fun K hK => ?_); (first | ((refine aj _ _ rfl _ _ rfl _ vt.out ?_); go_simp) | ((refine aj _ _ rfl _ _ rfl _ vr.out ?_); go_simp) | go_simp); refine hK _ ?_; clear hK K
    refine ar ?_
    go_wp2_with fail
    go_ret
    exact ⟨by rw [vA.out, Di.out, HT.out]; rfl, uZ.out.drop.drop.less vz.out⟩
  ·have hii : ¬ ((j : Int) < (N : Int)) := by omega
   have HT := Eh (show cs.any (fun x => RC.same x.c c.c) = false by have := vT.out; rwa [List.take_of_length_le (by rw [HN.out]; omega)] at this)
   go_wp2_with fail
   go_ret
   exact ⟨by rw [vA.out, Di.out, HT.out]; rfl, vh.out.drop.drop.less vz.out⟩
def iN (B : World) (D : PH) (l : List HP) (d : DocM) (os : List Int) (r : Ending) (w' : World) : Prop := ∃ (v iv : Value) (D' : PH), r = .returned (.tuple #[v, iv]) ∧ PH.le D D' ∧ DocD D' v d ∧ Sat B D' w' (cj iv os :: l)
noncomputable def ej (d : DocM) (o dur hand : Int) : DocM × List Int :=
 (⟨d.ts, d.room, (aY RC d.q (cq o ((aN d.q o).filter (fun c => !cT (dh d.r o dur hand) o c)))).1, dh d.r o dur hand⟩, (aY RC d.q (cq o ((aN d.q o).filter (fun c => !cT (dh d.r o dur hand) o c)))).2)
def ig (o dur hand : Int) (e : ReaE) : Bool := decide (e.o ≠ o) || decide (e.dur ≠ dur) || decide (e.hand ≠ hand)
theorem Sat.set5q {B w : World} {D : PH} {l : List HP} {b : Nat} {t : TypeId} {y0 y1 y2 y3 y4 : Value} (hs : Sat B D w (Proofs.YtgljdkjepdknnaaGreatDoor.blk b #[y0, y1, y2, y3, y4] t :: l)) (u v : Value) : Sat B D ((w.setCell ⟨b, 2, none⟩ u).setCell ⟨b, 3, none⟩ v) (Proofs.YtgljdkjepdknnaaGreatDoor.blk b #[y0, y1, u, v, y4] t :: l) := (hs.set 2 u).set 3 v
theorem boxE {w : World} {b : Nat} {e : ReaE} {t : TypeId} {fr : Nat × Nat} (h : w.heap[b]? = some (.cells (aZ e).toArray t fr)) : w.cell? ⟨b, 0, none⟩ = some (.int .i64 e.o) ∧ w.cell? ⟨b, 17, none⟩ = some (.int .i64 e.dur) ∧ w.cell? ⟨b, 18, none⟩ = some (.int .i64 e.hand) := by
 refine ⟨?_, ?_, ?_⟩ <;> simp [World.cell?, h, aZ]
theorem lA {B w : World} {D : PH} {l : List HP} {v : Value} {d : DocM} (o dur hand : Int) (hd : DocD D v d) (hM : d.r.length ≤ 1000) (hQ : d.q.held.length + d.q.waits.length ≤ 1000) (s : Sat B D w l) :
  Calls Tryz.prog 97 #[v, .int .i64 o, .int .i64 dur, .int .i64 hand] w (iN B D l (ej d o dur hand).1 (ej d o dur hand).2) := by
 obtain ⟨i0, hi, hz0, hz1, hz2⟩ := info_parts i9
 have HI := Eh (And.intro hi (And.intro hz0 (And.intro hz1 hz2)))
 obtain ⟨i1, gi, gz0, gz1, gz2⟩ := info_parts lI
 have xK := Eh (And.intro gi (And.intro gz0 (And.intro gz1 gz2)))
 obtain ⟨ta, ha, wa, ra, tc, hcc, wc, rc, hs, ws, es, rfl, ht, hh, hw, hhq, hwq, hr, hrr, _⟩ := lC hd s
 have hel : es.length ≤ 1000 := by rw [← List.length_map (f := iM), hrr]; exact hM
 obtain ⟨N, hN⟩ : ∃ N, es.length = N := ⟨_, rfl⟩
 have HN := Eh hN
 rw [hN] at hr hel ⊢
 obtain ⟨W1, hW1, hs1⟩ := cG s #[.slice ta d.ts.length tc, .int .i64 d.room, .slice ha hs.length hcc, .slice wa ws.length wc, .slice ra N rc] cp aQ aQ
 have uW := Eh hW1
 have uX := Eh (show Sat B D W1 (iJ (.slice none 0 0) [] :: _) from hs1.own_nil ct 19)
 have HR := Eh hr
 have Cg := Eh ht
 have Aq := Eh (And.intro hh (And.intro hw (And.intro hhq hwq)))
 have zd := Eh (show (es.filter (ig o dur hand)).map iM = dh d.r o dur hand by unfold dh; rw [← hrr, List.filter_map]; rfl)
 clear hd s hs1 hW1 hr hrr hN ht hh hw hhq hwq hi hz0 hz1 hz2 gi gz0 gz1 gz2
 go_enter Tryz.func97, Tryz.ntmps97
 go_upto_region 1 with fail
 rw [← uW.out]
 clear uW
 generalize w.heap.size + 1 = b2 at *
 generalize w.heap.size = b1 at *
 go_wp2_with fail
 go_loopw [10, 11] (fun ot i wr => ∃ (j : Nat) (oa : Option Addr) (oc : Nat) (zs : List ReaE), i = .int .i64 j ∧ ot = .slice oa zs.length oc ∧ j ≤ N ∧ zs = (es.take j).filter (ig o dur hand) ∧ Sat B D wr (iJ (.slice oa zs.length oc) zs :: blk b1 #[.slice ta d.ts.length tc, .int .i64 d.room, .slice ha hs.length hcc, .slice wa ws.length wc, .slice ra N rc] aQ :: blk b2 cp aQ :: l)) (fun _ i _ => N - (intOf i).toNat)
 case atStart => exact ⟨0, none, 0, [], rfl, rfl, by omega, rfl, uX.out⟩
 case round =>
  obtain ⟨j, oa, oc, zs, rfl, rfl, hj, hzs, hs3⟩ := hrel
  have hle : zs.length ≤ j := by rw [hzs]; exact Nat.le_trans (List.length_filter_le _ _) (by rw [List.length_take]; omega)
  have wo := Eh hzs
  have uY := Eh hs3
  clear hzs hs3 uX
  obtain ⟨q0, q1, q2, q3, q4, qf⟩ := aT (uY.out.blk 1 rfl)
  by_cases hlt : j < N
  ·have hii : (j : Int) < (N : Int) := by omega
   obtain ⟨x, hx⟩ : ∃ x, es[j]? = some x := ⟨es[j]'(by rw [HN.out]; exact hlt), List.getElem?_eq_getElem _⟩
   obtain ⟨g, og, rfl, hrng⟩ := aF dA (by have := HR.out.1.rd uY.out; rw [HN.out] at this; exact this) hx HN.out
   have HL := Eh (j6 hrng)
   have HX := Eh hx
   have vh := Eh (uY.out.alloc (aZ x).toArray ct)
   clear hx hrng
   go_upto_region 6 with (first | (refine ai rfl _ _ rfl _ _ rfl _ HL.out ?_) | (refine ax rfl _ _ _ rfl (aZ x) _ _ rfl rfl (by kernel_rfl) rfl (ku x) ?_))
   obtain ⟨W5, hW5, hs5⟩ := Sat.hide vh.out
   rw [← hW5]
   clear hW5 vh uY HL q0 q1 q2 q3 q4 qf
   generalize wr.heap.size = bx at hs5 ⊢
   obtain ⟨x0, x17, x18⟩ := boxE (hs5.blk 0 rfl)
   have uZ := Eh hs5
   clear hs5
   by_cases ho : x.o = o
   ·have hne : (x.o != o) = false := by simpa using ho
    by_cases hd : x.dur = dur
    ·have hne2 : (x.dur != dur) = false := by simpa using hd
     by_cases hh : x.hand = hand
     ·have hne3 : (x.hand != hand) = false := by simpa using hh
      have HT := Eh (aW (q := ig o dur hand) HX.out (by unfold ig; simp [ho, hd, hh]))
      clear ho hd hh
      go_wp2_with fail
      go_roundw
      case rel => exact ⟨j + 1, oa, oc, zs, by go_num, rfl, by omega, by rw [HT.out]; exact wo.out, uZ.out.drop⟩
      case measure => simp [intOf]; omega
     ·have hne3 : (x.hand != hand) = true := by simpa using hh
      have HT := Eh (aR (q := ig o dur hand) HX.out (by unfold ig; simp [hh]))
      have HL := Eh (j6 (ak (uZ.out.blk 0 rfl)))
      have vi := Eh ((uZ.out.alloc (aZ x).toArray ct).front 2 rfl)
      have vk := Eh (aS (size := 19) (n := 1) (vi.out.blk 1 rfl) (by simp [dA]) (by unfold maxLen; omega))
      clear uZ ho hd hh
      go_wp2_with (first | (refine ai rfl _ _ rfl _ _ rfl _ HL.out ?_) | (refine aD rfl _ _ rfl ct i0 _ (aZ x) rfl Tryz.underlying59 HI.out.1 HI.out.2.1 (HI.out.2.2.1.trans rfl) (by rw [dA]; decide) (by rw [dA]; decide) ?_) | (at_builtin; refine au _ rfl _ _ go rfl ct i0 _ 19 208 Tryz.underlying59 HI.out.1 HI.out.2.1 HI.out.2.2.1 HI.out.2.2.2 rfl _ zs.length _ rfl vi.out _ 1 _ rfl vk.out (by simpa using ku x) (by unfold maxLen; omega) (by omega) ?_; intro v11 w11 hs11 h11; obtain ⟨va, vc, rfl⟩ := hs11.own_shape; have vl := Eh hs11; clear hs11 h11 vi vk HL))
      go_roundw
      case rel =>
       refine ⟨j + 1, va, vc, zs ++ [x], by go_num, by rw [List.length_append]; rfl, by omega, by rw [HT.out, wo.out], ?_⟩
       show Sat B D w11 (aI ct 19 (.slice va (zs ++ [x]).length vc) (zs ++ [x]).length ((zs ++ [x]).flatMap aZ) :: _)
       rw [List.length_append, List.flatMap_append]
       have h9 := ((vl.out.front 2 rfl).drop.front 1 rfl).drop
       simpa using h9
      case measure => simp [intOf]; omega
    ·have hne2 : (x.dur != dur) = true := by simpa using hd
     have HT := Eh (aR (q := ig o dur hand) HX.out (by unfold ig; simp [hd]))
     have HL := Eh (j6 (ak (uZ.out.blk 0 rfl)))
     have vi := Eh ((uZ.out.alloc (aZ x).toArray ct).front 2 rfl)
     have vk := Eh (aS (size := 19) (n := 1) (vi.out.blk 1 rfl) (by simp [dA]) (by unfold maxLen; omega))
     clear uZ ho hd
     go_wp2_with (first | (refine ai rfl _ _ rfl _ _ rfl _ HL.out ?_) | (refine aD rfl _ _ rfl ct i0 _ (aZ x) rfl Tryz.underlying59 HI.out.1 HI.out.2.1 (HI.out.2.2.1.trans rfl) (by rw [dA]; decide) (by rw [dA]; decide) ?_) | (at_builtin; refine au _ rfl _ _ go rfl ct i0 _ 19 208 Tryz.underlying59 HI.out.1 HI.out.2.1 HI.out.2.2.1 HI.out.2.2.2 rfl _ zs.length _ rfl vi.out _ 1 _ rfl vk.out (by simpa using ku x) (by unfold maxLen; omega) (by omega) ?_; intro v11 w11 hs11 h11; obtain ⟨va, vc, rfl⟩ := hs11.own_shape; have vl := Eh hs11; clear hs11 h11 vi vk HL))
     go_roundw
     case rel =>
      refine ⟨j + 1, va, vc, zs ++ [x], by go_num, by rw [List.length_append]; rfl, by omega, by rw [HT.out, wo.out], ?_⟩
      show Sat B D w11 (aI ct 19 (.slice va (zs ++ [x]).length vc) (zs ++ [x]).length ((zs ++ [x]).flatMap aZ) :: _)
      rw [List.length_append, List.flatMap_append]
      have h9 := ((vl.out.front 2 rfl).drop.front 1 rfl).drop
      simpa using h9
     case measure => simp [intOf]; omega
   ·have hne : (x.o != o) = true := by simpa using ho
    have HT := Eh (aR (q := ig o dur hand) HX.out (by unfold ig; simp [ho]))
    have HL := Eh (j6 (ak (uZ.out.blk 0 rfl)))
    have vi := Eh ((uZ.out.alloc (aZ x).toArray ct).front 2 rfl)
    have vk := Eh (aS (size := 19) (n := 1) (vi.out.blk 1 rfl) (by simp [dA]) (by unfold maxLen; omega))
    clear uZ ho
    go_wp2_with (first | (refine ai rfl _ _ rfl _ _ rfl _ HL.out ?_) | (refine aD rfl _ _ rfl ct i0 _ (aZ x) rfl Tryz.underlying59 HI.out.1 HI.out.2.1 (HI.out.2.2.1.trans rfl) (by rw [dA]; decide) (by rw [dA]; decide) ?_) | (at_builtin; refine au _ rfl _ _ go rfl ct i0 _ 19 208 Tryz.underlying59 HI.out.1 HI.out.2.1 HI.out.2.2.1 HI.out.2.2.2 rfl _ zs.length _ rfl vi.out _ 1 _ rfl vk.out (by simpa using ku x) (by unfold maxLen; omega) (by omega) ?_; intro v11 w11 hs11 h11; obtain ⟨va, vc, rfl⟩ := hs11.own_shape; have vl := Eh hs11; clear hs11 h11 vi vk HL))
    go_roundw
    case rel =>
     refine ⟨j + 1, va, vc, zs ++ [x], by go_num, by rw [List.length_append]; rfl, by omega, by rw [HT.out, wo.out], ?_⟩
     show Sat B D w11 (aI ct 19 (.slice va (zs ++ [x]).length vc) (zs ++ [x]).length ((zs ++ [x]).flatMap aZ) :: _)
     rw [List.length_append, List.flatMap_append]
     have h9 := ((vl.out.front 2 rfl).drop.front 1 rfl).drop
     simpa using h9
    case measure => simp [intOf]; omega
  ·have hji : ¬ ((j : Int) < (N : Int)) := by omega
   have HT := Eh (show zs = es.filter (ig o dur hand) by rw [wo.out, List.take_of_length_le (by rw [HN.out]; omega)])
   have vh := Eh (Sat.set5e (uY.out.front 1 rfl) (.slice oa zs.length oc))
   go_upto_region 9 with fail
   obtain ⟨W8, hW8, hs8⟩ := Sat.hide vh.out
   rw [← hW8]
   clear hW8 vh uY q0 q1 q2 q3 q4 qf
   obtain ⟨D2, hle2, hE2, hs9⟩ := fo (hs8.front 1 rfl) (fun e he => by rw [wo.out] at he; exact HR.out.2 e (List.mem_of_mem_take (List.mem_filter.1 he).1))
   obtain ⟨q0, q1, q2, q3, q4, qf⟩ := aT (hs9.blk 0 rfl)
   have Ao := Eh (show QueD D2 (.agg #[.slice ha hs.length hcc, .slice wa ws.length wc]) d.q from ⟨_, _, hs, ws, rfl, Aq.out.1.mono hle2, Aq.out.2.1.mono hle2, Aq.out.2.2.1, Aq.out.2.2.2⟩)
   have wH := Eh (gI o Ao.out (by omega) hs9)
   have vv := Eh hle2
   have xp := Eh hE2
   clear hs8 hle2 hE2
   have CE := Eh (show DocD D2 (.agg #[.slice ta d.ts.length tc, .int .i64 d.room, .slice ha hs.length hcc, .slice wa ws.length wc, .slice oa zs.length oc]) ⟨d.ts, d.room, d.q, dh d.r o dur hand⟩ from ⟨_, _, _, _, zs, rfl, Cg.out.mono vv.out, Ao.out, xp.out, by rw [HT.out]; exact zd.out⟩)
   clear hs9
   go_upto_region 10 with (go_at_call 34; refine wH.out.mono ?_; rintro e10 w10 ⟨hv10, cs, D3, rfl, hle3, hcs, hmap, hs10⟩; have wl := Eh hle3; have wE := Eh hcs; have AG := Eh hmap; obtain ⟨ca, cc, rfl⟩ := hcs.1.shape; have vo := Eh (show Sat B D3 w10 (gx (.slice none 0 0) [] :: _) from hs10.own_nil tCl 16); clear hle3 hcs hmap hs10 wH q0 q1 q2 q3 q4 qf)
   obtain ⟨M, hM2⟩ : ∃ M, cs.length = M := ⟨_, rfl⟩
   have HM := Eh hM2
   have hml : M ≤ 1000 := by
    have h1 := congrArg List.length AG.out
    rw [List.length_map, hM2] at h1
    unfold aN at h1
    rw [List.length_map] at h1
    have h2 := List.length_filter_le (ofE o) d.q.held
    omega
   rw [hM2] at wE ⊢
   clear hM2
   go_wp2_with fail
   go_loopw [14, 15] (fun ot2 i2 wr2 => ∃ (k : Nat) (ga : Option Addr) (gc : Nat) (ds : List ClmE), i2 = .int .i64 k ∧ ot2 = .slice ga ds.length gc ∧ k ≤ M ∧ ds = (cs.take k).filter (fun c => !cT (dh d.r o dur hand) o c.c) ∧ Sat B D3 wr2 (gx (.slice ga ds.length gc) ds :: blk b1 #[.slice ta d.ts.length tc, .int .i64 d.room, .slice ha hs.length hcc, .slice wa ws.length wc, .slice oa zs.length oc] aQ :: blk b2 cp aQ :: l)) (fun _ i2 _ => M - (intOf i2).toNat)
   case atStart => exact ⟨0, none, 0, [], rfl, rfl, by omega, rfl, vo.out⟩
   case round =>
    obtain ⟨k, ga, gc, ds, rfl, rfl, hk, hds, hs11⟩ := hrel
    have hled : ds.length ≤ k := by rw [hds]; exact Nat.le_trans (List.length_filter_le _ _) (by rw [List.length_take]; omega)
    have yX := Eh hds
    have vl := Eh hs11
    clear hds hs11 vo
    by_cases hlt2 : k < M
    ·have hii2 : (k : Int) < (M : Int) := by omega
     obtain ⟨x, hx⟩ : ∃ x, cs[k]? = some x := ⟨cs[k]'(by rw [HM.out]; exact hlt2), List.getElem?_eq_getElem _⟩
     obtain ⟨g, og, rfl, hrng⟩ := aF ClmE.len (by have := wE.out.1.rd vl.out.drew; rw [HM.out] at this; exact this) hx HM.out
     have vt := Eh (az (w := wr.drew) hrng)
     have vx := Eh (aG (w := wr.drew) (vl.out.drew.blk 1 rfl))
     have zo := Eh (qi o x (CE.out.mono wl.out) (wE.out.2 x (List.mem_of_getElem? hx)) vl.out.drew)
     have HX := Eh hx
     obtain ⟨q0, q1, q2, q3, q4, qf⟩ := aT (vl.out.blk 1 rfl)
     clear hx hrng
     go_upto_region 14 with fail
     obtain ⟨rs, hrs⟩ : ∃ rs, rs = cT (dh d.r o dur hand) o x.c := ⟨_, rfl⟩
     have zx := Eh hrs
     rw [show (DocM.mk d.ts d.room d.q (dh d.r o dur hand)).r = dh d.r o dur hand from rfl, ← hrs] at zo
     clear hrs
     refine ag [(0, false, 6), (1, false, 6), (2, false, 6), (3, false, 6), (4, false, 6), (5, false, 6), (6, true, 0), (7, false, 999)] (by kernel_rfl) (by kernel_rfl) ?_
     iterate 6 (refine af rfl rfl (fun K hK => ?_); (first | ((refine aj _ _ rfl _ _ rfl _ vt.out ?_); go_simp) | ((refine aj _ _ rfl _ _ rfl [_,_,_,_,_] vx.out ?_); go_simp) | go_simp); refine hK _ ?_; clear hK K)
     refine al rfl ?_
     refine aw rfl (fun K hK => ?_)
     go_simp
     refine zo.out.mono ?_
     rintro e12 w12 ⟨rfl, hs12⟩
     have vY := Eh hs12
     clear hs12 zo vt vx vl q0 q1 q2 q3 q4 qf
     refine hK _ _ ?_
     clear hK K
     refine wpList_nil ?_
     refine And.intro ?_ ?_
     ·go_simp
     refine af rfl rfl (fun K hK => ?_); (first | ((refine aj _ _ rfl _ _ rfl _ vt.out ?_); go_simp) | ((refine aj _ _ rfl _ _ rfl [_,_,_,_,_] vx.out ?_); go_simp) | go_simp); refine hK _ ?_; clear hK K
     refine ar ?_
     cases rs
     ·have Aa := Eh (aR (q := fun c : ClmE => !cT (dh d.r o dur hand) o c.c) HX.out (by rw [← zx.out]; rfl))
      obtain ⟨g', og', hg', hrng'⟩ := aF ClmE.len (by have := wE.out.1.rd vY.out; rw [HM.out] at this; exact this) HX.out HM.out
      cases hg'
      have HL := Eh (az hrng')
      have vM := Eh ((vY.out.alloc x.cells.toArray tCl).front 1 rfl)
      have vk := Eh (aS (size := 16) (n := 1) (vM.out.blk 1 rfl) rfl (by unfold maxLen; omega))
      clear hrng' vY
      go_wp2_with (first | (refine ai rfl _ _ rfl _ _ rfl _ HL.out ?_) | (refine aD rfl _ _ rfl tCl i1 _ x.cells rfl Tryz.underlying45 xK.out.1 xK.out.2.1 (xK.out.2.2.1.trans rfl) (by rw [ClmE.len]; decide) (by rw [ClmE.len]; decide) ?_) | (at_builtin; refine au _ rfl _ _ tCs rfl tCl i1 _ 16 184 Tryz.underlying45 xK.out.1 xK.out.2.1 xK.out.2.2.1 xK.out.2.2.2 rfl _ ds.length _ rfl vM.out _ 1 _ rfl vk.out (by simpa using ClmE.one x) (by unfold maxLen; omega) (by omega) ?_; intro v14 w14 hs14 h14; obtain ⟨va, vc, rfl⟩ := hs14.own_shape; have wh := Eh hs14; clear hs14 h14 vM vk HL))
      go_roundw
      case rel =>
       refine ⟨k + 1, va, vc, ds ++ [x], by go_num, by rw [List.length_append]; rfl, by omega, by rw [Aa.out, yX.out], ?_⟩
       show Sat B D3 w14 (aI tCl 16 (.slice va (ds ++ [x]).length vc) (ds ++ [x]).length ((ds ++ [x]).flatMap ClmE.cells) :: _)
       rw [List.length_append, List.flatMap_append]
       have h9 := (wh.out.front 1 rfl).drop
       simpa using h9
      case measure => simp [intOf]; omega
     ·have Aa := Eh (aW (q := fun c : ClmE => !cT (dh d.r o dur hand) o c.c) HX.out (by rw [← zx.out]; rfl))
      go_wp2_with fail
      go_roundw
      case rel => exact ⟨k + 1, ga, gc, ds, by go_num, rfl, by omega, by rw [Aa.out]; exact yX.out, vY.out⟩
      case measure => simp [intOf]; omega
    ·have hii2 : ¬ ((k : Int) < (M : Int)) := by omega
     have Aa := Eh (show ds = cs.filter (fun c => !cT (dh d.r o dur hand) o c.c) by rw [yX.out, List.take_of_length_le (by rw [HM.out]; omega)])
     obtain ⟨D4, hle4, hcd, hs12⟩ := jZ vl.out (fun c hc => by rw [Aa.out] at hc; exact wE.out.2 c (List.mem_filter.1 hc).1)
     have hmap2 : ds.map ClmE.c = (aN d.q o).filter (fun c => !cT (dh d.r o dur hand) o c) := by rw [Aa.out, ← AG.out, List.filter_map]; rfl
     have wZ := Eh (mR o (Ao.out.mono (wl.out.trans hle4)) hcd hQ hs12)
     rw [hmap2] at wZ
     obtain ⟨q0, q1, q2, q3, q4, qf⟩ := aT (hs12.blk 0 rfl)
     have vL := Eh (vv.out.trans (wl.out.trans hle4))
     have BO := Eh (wl.out.trans hle4)
     clear hle4 hcd hs12 hmap2 vl
     go_upto_region 18 with (first | (go_at_call 103; refine wZ.out.mono ?_; rintro e15 w15 ⟨v15, iv, D5, rfl, hle5, hq5, hs15⟩; obtain ⟨hv5, wv5, hs5', ws5', rfl, hh5, hw5, hhq5, hwq5⟩ := hq5; obtain ⟨ha5, hc5, rfl⟩ := hh5.1.shape; obtain ⟨wa5, wc5, rfl⟩ := hw5.1.shape; have vC := Eh hle5; have Ch := Eh (And.intro hh5 (And.intro hw5 (And.intro hhq5 hwq5))); have vR := Eh (hs15.alloc #[.slice ha5 hs5'.length hc5, .slice wa5 ws5'.length wc5] tRq); clear hle5 hh5 hw5 hhq5 hwq5 hs15 wZ q0 q1 q2 q3 q4 qf))
     obtain ⟨W16, hW16, hs16⟩ := Sat.hide vR.out
     rw [← hW16]
     clear hW16 vR
     generalize w15.heap.size = bq at hs16 ⊢
     obtain ⟨p0, p1, pf⟩ := aJ (hs16.blk 0 rfl)
     obtain ⟨q0, q1, q2, q3, q4, qf⟩ := aT (hs16.blk 2 rfl)
     have vO := Eh (Sat.set5q (hs16.front 2 rfl) (.slice ha5 hs5'.length hc5) (.slice wa5 ws5'.length wc5))
     clear hs16
     go_upto_region 19 with fail
     obtain ⟨W18, hW18, hs18⟩ := Sat.hide vO.out
     rw [← hW18]
     clear hW18 vO p0 p1 pf q0 q1 q2 q3 q4 qf
     have vx := Eh (aG (hs18.blk 0 rfl))
     have wW := Eh (hs18.front 3 rfl)
     clear hs18
     go_wp2_with (first | (refine ai rfl _ _ rfl _ _ rfl [_, _, _, _, _] vx.out ?_) | (refine ap rfl _ _ _ rfl aQ b2 rfl [.slice ta d.ts.length tc, .int .i64 d.room, .slice ha5 hs5'.length hc5, .slice wa5 ws5'.length wc5, .slice oa zs.length oc] rfl cp wW.out (by kernel_rfl) rfl (by intro u hu; simp at hu; rcases hu with rfl | rfl | rfl | rfl | rfl <;> rfl) ?_; intro w20 hs20; have vq := Eh hs20; clear hs20 wW))
     refine bodyPost_ret (aL rfl _ _ rfl (aG (vq.out.blk 0 rfl))) rfl ?_
     refine ⟨_, _, D5, rfl, vL.out.trans vC.out, ⟨_, _, _, _, zs, rfl, (Cg.out.mono vL.out).mono vC.out, ⟨_, _, hs5', ws5', rfl, Ch.out.1, Ch.out.2.1, Ch.out.2.2.1, Ch.out.2.2.2⟩, (xp.out.mono BO.out).mono vC.out, by rw [HT.out]; exact zd.out⟩, ?_⟩
     exact vq.out.drop.drop.drop
end Go.Proofs.YtgljdkjepdknnaaGreatDoor
