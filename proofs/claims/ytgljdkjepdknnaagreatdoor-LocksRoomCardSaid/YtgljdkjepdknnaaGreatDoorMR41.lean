/- The document's locks: whether an owner holds a claim that is the same; ending a reason (ratlineref11.Locks.has, over). (printed by genrk3.py) -/
import Derived.Test.YtgljdkjepdknnaaGreatDoorMR40
import Derived.Test.YtgljdkjepdknnaaGreatDoorMR39
namespace Go.Proofs.YtgljdkjepdknnaaGreatDoor
open Go.ChangeShapes Go.WideShapes Go.ChangeAt Go.RowKit
set_option maxRecDepth 100000
set_option linter.unusedSimpArgs false

set_option maxHeartbeats 8000000 in
theorem rHas_ok {B w : World} {D : PH} {l : List HP} {v : Value} {d : DocM} (o : Int) (c : ClmE) (hd : DocD D v d) (hc : ClOk D c) (hM : d.q.held.length ≤ 1000) (s : Sat B D w l) :
  Calls Tryz.prog 100 #[v, .int .i64 o, .agg c.cells.toArray] w fun r w' => r = .returned (.bool ((holdsQ d.q o).any (fun h => RC.same h c.c))) ∧ Sat B D w' l := by
 obtain ⟨ta, ha, wa, ra, tc, hcc, wc, rc, hs, ws, es, rfl, _, hh, hw, hhq, hwq, _, _, hs1⟩ := docBox hd s
 obtain ⟨W1, hW1, hs2⟩ := Sat.hide (hs1.alloc c.cells.toArray tCl)
 rw [World.size_alloc] at hs2
 have HW1 := Lib.hid hW1
 have HS1 := Lib.hid hs2
 have HHO := Lib.hid (rqHolds_ok (v := .agg #[.slice ha hs.length hcc, .slice wa ws.length wc]) o ⟨_, _, hs, ws, rfl, hh, hw, hhq, hwq⟩ hM hs2)
 have HC := Lib.hid hc
 obtain ⟨rr, hrr⟩ : ∃ rr, rr = (holdsQ d.q o).any (fun h => RC.same h c.c) := ⟨_, rfl⟩
 rw [← hrr]
 have HRR := Lib.hid hrr
 clear hd s hs1 hs2 hW1 hc hh hw hhq hwq hrr
 go_enter Tryz.func100, Tryz.ntmps100
 go_upto_region 1 with fail
 rw [← HW1.out]
 clear HW1
 generalize w.heap.size + 1 = b2 at *
 generalize w.heap.size = b1 at *
 obtain ⟨q0, q1, q2, q3, q4, qf⟩ := cells5v (HS1.out.blk 1 rfl)
 go_upto_region 2 with (go_at_call 34; refine HHO.out.mono ?_; rintro e1 w1 ⟨hv1, cs, D1, rfl, hle, hcs, hmap, hs3⟩; have HLE := Lib.hid hle; have HCS := Lib.hid hcs; have HMP := Lib.hid hmap; obtain ⟨ca, cc, rfl⟩ := hcs.1.shape; have HS3 := Lib.hid hs3; clear hle hcs hmap hs3 HHO HS1 q0 q1 q2 q3 q4 qf)
 obtain ⟨N, hN⟩ : ∃ N, cs.length = N := ⟨_, rfl⟩
 have HN := Lib.hid hN
 have hml := HCS.out.1.len
 rw [hN] at HCS hml ⊢
 have HAN := Lib.hid (show (holdsQ d.q o).any (fun h => RC.same h c.c) = cs.any (fun x => RC.same x.c c.c) by rw [← HMP.out, List.any_map]; rfl)
 clear hN
 go_wp2_with fail
 go_loopw [8] (fun i wr => ∃ j : Nat, i = .int .i64 j ∧ j ≤ N ∧ (cs.take j).any (fun x => RC.same x.c c.c) = false ∧ Sat B D1 wr (blk b2 c.cells.toArray tCl :: blk b1 #[.slice ta d.ts.length tc, .int .i64 d.room, .slice ha hs.length hcc, .slice wa ws.length wc, .slice ra es.length rc] tLkV :: l)) (fun i _ => N - (intOf i).toNat)
 case atStart => exact ⟨0, rfl, by omega, rfl, HS3.out⟩
 case round =>
  obtain ⟨j, rfl, hj, hno, hs4⟩ := hrel
  have HNO := Lib.hid hno
  have HS4 := Lib.hid hs4
  clear hno hs4 HS3
  by_cases hlt : j < N
  ·have hii : (j : Int) < (N : Int) := by omega
   obtain ⟨x, hx⟩ : ∃ x, cs[j]? = some x := ⟨cs[j]'(by rw [HN.out]; exact hlt), List.getElem?_eq_getElem _⟩
   obtain ⟨g, og, rfl, hrng⟩ := elem_range ClmE.len (by have := HCS.out.1.rd HS4.out.drew; rw [HN.out] at this; exact this) hx HN.out
   have HLX := Lib.hid (loadCl (w := wr.drew) hrng)
   have HLC := Lib.hid (loadCl (w := wr.drew) (blk_range (HS4.out.drew.blk 0 rfl)))
   have HSS := Lib.hid (rcSame_ok ((HCS.out.2 x (List.mem_of_getElem? hx)).rd HS4.out.drew) ((HC.out.mono HLE.out).rd HS4.out.drew))
   have HSUC := Lib.hid (show (cs.take (j + 1)).any (fun x => RC.same x.c c.c) = RC.same x.c c.c by rw [List.take_add_one, hx, List.any_append, HNO.out]; simp)
   have HMEM := Lib.hid (List.mem_of_getElem? hx)
   clear hx hrng
   go_upto_region 5 with fail
   cases hsm : RC.same x.c c.c
   ·rw [hsm] at HSS HSUC
    have HSM := Lib.hid hsm
    clear hsm
    refine wp_region_canon [(0, false, 5), (1, false, 5), (2, false, 5), (3, false, 5), (4, false, 5), (5, true, 0), (6, false, 999)] (by kernel_rfl) (by kernel_rfl) ?_
    iterate 5 (refine wpCan_read rfl rfl (fun K hK => ?_); (first | ((refine still_ld _ _ rfl _ _ rfl _ HLX.out ?_); go_simp) | ((refine still_ld _ _ rfl _ _ rfl _ HLC.out ?_); go_simp) | go_simp); refine hK _ ?_; clear hK K)
    refine wpCan_eff rfl ?_
    refine wpList_do rfl (fun K hK => ?_)
    go_simp
    refine HSS.out.mono ?_
    rintro e4 w4 ⟨rfl, hk4⟩
    have HS5 := Lib.hid (HS4.out.drew.kept hk4)
    clear hk4 HSS HLX HLC HS4
    refine hK _ _ ?_
    clear hK K
    refine wpList_nil ?_
    refine And.intro ?_ ?_
    ·go_simp
    iterate 1 (refine wpCan_read rfl rfl (fun K hK => ?_); (first | ((refine still_ld _ _ rfl _ _ rfl _ HLX.out ?_); go_simp) | ((refine still_ld _ _ rfl _ _ rfl _ HLC.out ?_); go_simp) | go_simp); refine hK _ ?_; clear hK K)
    refine wpCan_nil ?_
    go_wp2_with fail
    go_roundw
    case rel => exact ⟨j + 1, by go_num, by omega, HSUC.out, HS5.out⟩
    case measure => simp [intOf]; omega
   ·rw [hsm] at HSS
    have HT := Lib.hid (show cs.any (fun x => RC.same x.c c.c) = true from List.any_eq_true.2 ⟨x, HMEM.out, hsm⟩)
    clear hsm
    refine wp_region_canon [(0, false, 5), (1, false, 5), (2, false, 5), (3, false, 5), (4, false, 5), (5, true, 0), (6, false, 999)] (by kernel_rfl) (by kernel_rfl) ?_
    iterate 5 (refine wpCan_read rfl rfl (fun K hK => ?_); (first | ((refine still_ld _ _ rfl _ _ rfl _ HLX.out ?_); go_simp) | ((refine still_ld _ _ rfl _ _ rfl _ HLC.out ?_); go_simp) | go_simp); refine hK _ ?_; clear hK K)
    refine wpCan_eff rfl ?_
    refine wpList_do rfl (fun K hK => ?_)
    go_simp
    refine HSS.out.mono ?_
    rintro e4 w4 ⟨rfl, hk4⟩
    have HS5 := Lib.hid (HS4.out.drew.kept hk4)
    clear hk4 HSS HLX HLC HS4
    refine hK _ _ ?_
    clear hK K
    refine wpList_nil ?_
    refine And.intro ?_ ?_
    ·go_simp
    iterate 1 (refine wpCan_read rfl rfl (fun K hK => ?_); (first | ((refine still_ld _ _ rfl _ _ rfl _ HLX.out ?_); go_simp) | ((refine still_ld _ _ rfl _ _ rfl _ HLC.out ?_); go_simp) | go_simp); refine hK _ ?_; clear hK K)
    refine wpCan_nil ?_
    go_wp2_with fail
    go_ret
    exact ⟨by rw [HRR.out, HAN.out, HT.out]; rfl, HS5.out.drop.drop.less HLE.out⟩
  ·have hii : ¬ ((j : Int) < (N : Int)) := by omega
   have HT := Lib.hid (show cs.any (fun x => RC.same x.c c.c) = false by have := HNO.out; rwa [List.take_of_length_le (by rw [HN.out]; omega)] at this)
   go_wp2_with fail
   go_ret
   exact ⟨by rw [HRR.out, HAN.out, HT.out]; rfl, HS4.out.drop.drop.less HLE.out⟩
/-- locks, and who is given something -/
def DocEnd (B : World) (D : PH) (l : List HP) (d : DocM) (os : List Int) (r : Ending) (w' : World) : Prop := ∃ (v iv : Value) (D' : PH), r = .returned (.tuple #[v, iv]) ∧ PH.le D D' ∧ DocD D' v d ∧ Sat B D' w' (intsP iv os :: l)
noncomputable def overD (d : DocM) (o dur hand : Int) : DocM × List Int :=
 (⟨d.ts, d.room, (dropQ RC d.q (goneP o ((holdsQ d.q o).filter (fun c => !reasonE (overE d.r o dur hand) o c)))).1, overE d.r o dur hand⟩, (dropQ RC d.q (goneP o ((holdsQ d.q o).filter (fun c => !reasonE (overE d.r o dur hand) o c)))).2)
def keepO (o dur hand : Int) (e : ReaE) : Bool := decide (e.o ≠ o) || decide (e.dur ≠ dur) || decide (e.hand ≠ hand)
theorem Sat.set5q {B w : World} {D : PH} {l : List HP} {b : Nat} {t : TypeId} {y0 y1 y2 y3 y4 : Value} (hs : Sat B D w (Proofs.YtgljdkjepdknnaaGreatDoor.blk b #[y0, y1, y2, y3, y4] t :: l)) (u v : Value) : Sat B D ((w.setCell ⟨b, 2, none⟩ u).setCell ⟨b, 3, none⟩ v) (Proofs.YtgljdkjepdknnaaGreatDoor.blk b #[y0, y1, u, v, y4] t :: l) := (hs.set 2 u).set 3 v
theorem boxE {w : World} {b : Nat} {e : ReaE} {t : TypeId} {fr : Nat × Nat} (h : w.heap[b]? = some (.cells (cellsE e).toArray t fr)) : w.cell? ⟨b, 0, none⟩ = some (.int .i64 e.o) ∧ w.cell? ⟨b, 17, none⟩ = some (.int .i64 e.dur) ∧ w.cell? ⟨b, 18, none⟩ = some (.int .i64 e.hand) := by
 refine ⟨?_, ?_, ?_⟩ <;> simp [World.cell?, h, cellsE]
set_option maxHeartbeats 16000000 in
theorem rOver_ok {B w : World} {D : PH} {l : List HP} {v : Value} {d : DocM} (o dur hand : Int) (hd : DocD D v d) (hM : d.r.length ≤ 1000) (hQ : d.q.held.length + d.q.waits.length ≤ 1000) (s : Sat B D w l) :
  Calls Tryz.prog 97 #[v, .int .i64 o, .int .i64 dur, .int .i64 hand] w (DocEnd B D l (overD d o dur hand).1 (overD d o dur hand).2) := by
 obtain ⟨i0, hi, hz0, hz1, hz2⟩ := info_parts infoRea
 have HI := Lib.hid (And.intro hi (And.intro hz0 (And.intro hz1 hz2)))
 obtain ⟨i1, gi, gz0, gz1, gz2⟩ := info_parts infoCl
 have HI1 := Lib.hid (And.intro gi (And.intro gz0 (And.intro gz1 gz2)))
 obtain ⟨ta, ha, wa, ra, tc, hcc, wc, rc, hs, ws, es, rfl, ht, hh, hw, hhq, hwq, hr, hrr, _⟩ := docBox hd s
 have hel : es.length ≤ 1000 := by rw [← List.length_map (f := reaE), hrr]; exact hM
 obtain ⟨N, hN⟩ : ∃ N, es.length = N := ⟨_, rfl⟩
 have HN := Lib.hid hN
 rw [hN] at hr hel ⊢
 obtain ⟨W1, hW1, hs1⟩ := two_new s #[.slice ta d.ts.length tc, .int .i64 d.room, .slice ha hs.length hcc, .slice wa ws.length wc, .slice ra N rc] zLkV tLkV tLkV
 have HW1 := Lib.hid hW1
 have HS1 := Lib.hid (show Sat B D W1 (reasP (.slice none 0 0) [] :: _) from hs1.own_nil tRea 19)
 have HR := Lib.hid hr
 have HTT := Lib.hid ht
 have HHH := Lib.hid (And.intro hh (And.intro hw (And.intro hhq hwq)))
 have HWO := Lib.hid (show (es.filter (keepO o dur hand)).map reaE = overE d.r o dur hand by unfold overE; rw [← hrr, List.filter_map]; rfl)
 clear hd s hs1 hW1 hr hrr hN ht hh hw hhq hwq hi hz0 hz1 hz2 gi gz0 gz1 gz2
 go_enter Tryz.func97, Tryz.ntmps97
 go_upto_region 1 with fail
 rw [← HW1.out]
 clear HW1
 generalize w.heap.size + 1 = b2 at *
 generalize w.heap.size = b1 at *
 go_wp2_with fail
 go_loopw [10, 11] (fun ot i wr => ∃ (j : Nat) (oa : Option Addr) (oc : Nat) (zs : List ReaE), i = .int .i64 j ∧ ot = .slice oa zs.length oc ∧ j ≤ N ∧ zs = (es.take j).filter (keepO o dur hand) ∧ Sat B D wr (reasP (.slice oa zs.length oc) zs :: blk b1 #[.slice ta d.ts.length tc, .int .i64 d.room, .slice ha hs.length hcc, .slice wa ws.length wc, .slice ra N rc] tLkV :: blk b2 zLkV tLkV :: l)) (fun _ i _ => N - (intOf i).toNat)
 case atStart => exact ⟨0, none, 0, [], rfl, rfl, by omega, rfl, HS1.out⟩
 case round =>
  obtain ⟨j, oa, oc, zs, rfl, rfl, hj, hzs, hs3⟩ := hrel
  have hle : zs.length ≤ j := by rw [hzs]; exact Nat.le_trans (List.length_filter_le _ _) (by rw [List.length_take]; omega)
  have HZS := Lib.hid hzs
  have HS3 := Lib.hid hs3
  clear hzs hs3 HS1
  obtain ⟨q0, q1, q2, q3, q4, qf⟩ := cells5v (HS3.out.blk 1 rfl)
  by_cases hlt : j < N
  ·have hii : (j : Int) < (N : Int) := by omega
   obtain ⟨x, hx⟩ : ∃ x, es[j]? = some x := ⟨es[j]'(by rw [HN.out]; exact hlt), List.getElem?_eq_getElem _⟩
   obtain ⟨g, og, rfl, hrng⟩ := elem_range lenE (by have := HR.out.1.rd HS3.out; rw [HN.out] at this; exact this) hx HN.out
   have HL := Lib.hid (loadE hrng)
   have HX := Lib.hid hx
   have HS4 := Lib.hid (HS3.out.alloc (cellsE x).toArray tRea)
   clear hx hrng
   go_upto_region 6 with (first | (refine wpList_ld rfl _ _ rfl _ _ rfl _ HL.out ?_) | (refine wpList_store_new rfl _ _ _ rfl (cellsE x) _ _ rfl rfl (by kernel_rfl) rfl (oneE x) ?_))
   obtain ⟨W5, hW5, hs5⟩ := Sat.hide HS4.out
   rw [← hW5]
   clear hW5 HS4 HS3 HL q0 q1 q2 q3 q4 qf
   generalize wr.heap.size = bx at hs5 ⊢
   obtain ⟨x0, x17, x18⟩ := boxE (hs5.blk 0 rfl)
   have HS5 := Lib.hid hs5
   clear hs5
   by_cases ho : x.o = o
   ·have hne : (x.o != o) = false := by simpa using ho
    by_cases hd : x.dur = dur
    ·have hne2 : (x.dur != dur) = false := by simpa using hd
     by_cases hh : x.hand = hand
     ·have hne3 : (x.hand != hand) = false := by simpa using hh
      have HT := Lib.hid (filter_take_no (q := keepO o dur hand) HX.out (by unfold keepO; simp [ho, hd, hh]))
      clear ho hd hh
      go_wp2_with fail
      go_roundw
      case rel => exact ⟨j + 1, oa, oc, zs, by go_num, rfl, by omega, by rw [HT.out]; exact HZS.out, HS5.out.drop⟩
      case measure => simp [intOf]; omega
     ·have hne3 : (x.hand != hand) = true := by simpa using hh
      have HT := Lib.hid (filter_take_yes (q := keepO o dur hand) HX.out (by unfold keepO; simp [hh]))
      have HL := Lib.hid (loadE (blk_range (HS5.out.blk 0 rfl)))
      have HS6 := Lib.hid ((HS5.out.alloc (cellsE x).toArray tRea).front 2 rfl)
      have HRD := Lib.hid (rd_block (size := 19) (n := 1) (HS6.out.blk 1 rfl) (by simp [lenE]) (by unfold maxLen; omega))
      clear HS5 ho hd hh
      go_wp2_with (first | (refine wpList_ld rfl _ _ rfl _ _ rfl _ HL.out ?_) | (refine wpList_build_one rfl _ _ rfl tRea i0 _ (cellsE x) rfl Tryz.underlying59 HI.out.1 HI.out.2.1 (HI.out.2.2.1.trans rfl) (by rw [lenE]; decide) (by rw [lenE]; decide) ?_) | (at_builtin; refine wpList_append_Sat _ rfl _ _ tReas rfl tRea i0 _ 19 208 Tryz.underlying59 HI.out.1 HI.out.2.1 HI.out.2.2.1 HI.out.2.2.2 rfl _ zs.length _ rfl HS6.out _ 1 _ rfl HRD.out (by simpa using oneE x) (by unfold maxLen; omega) (by omega) ?_; intro v11 w11 hs11 h11; obtain ⟨va, vc, rfl⟩ := hs11.own_shape; have HS11 := Lib.hid hs11; clear hs11 h11 HS6 HRD HL))
      go_roundw
      case rel =>
       refine ⟨j + 1, va, vc, zs ++ [x], by go_num, by rw [List.length_append]; rfl, by omega, by rw [HT.out, HZS.out], ?_⟩
       show Sat B D w11 (ownS tRea 19 (.slice va (zs ++ [x]).length vc) (zs ++ [x]).length ((zs ++ [x]).flatMap cellsE) :: _)
       rw [List.length_append, List.flatMap_append]
       have h9 := ((HS11.out.front 2 rfl).drop.front 1 rfl).drop
       simpa using h9
      case measure => simp [intOf]; omega
    ·have hne2 : (x.dur != dur) = true := by simpa using hd
     have HT := Lib.hid (filter_take_yes (q := keepO o dur hand) HX.out (by unfold keepO; simp [hd]))
     have HL := Lib.hid (loadE (blk_range (HS5.out.blk 0 rfl)))
     have HS6 := Lib.hid ((HS5.out.alloc (cellsE x).toArray tRea).front 2 rfl)
     have HRD := Lib.hid (rd_block (size := 19) (n := 1) (HS6.out.blk 1 rfl) (by simp [lenE]) (by unfold maxLen; omega))
     clear HS5 ho hd
     go_wp2_with (first | (refine wpList_ld rfl _ _ rfl _ _ rfl _ HL.out ?_) | (refine wpList_build_one rfl _ _ rfl tRea i0 _ (cellsE x) rfl Tryz.underlying59 HI.out.1 HI.out.2.1 (HI.out.2.2.1.trans rfl) (by rw [lenE]; decide) (by rw [lenE]; decide) ?_) | (at_builtin; refine wpList_append_Sat _ rfl _ _ tReas rfl tRea i0 _ 19 208 Tryz.underlying59 HI.out.1 HI.out.2.1 HI.out.2.2.1 HI.out.2.2.2 rfl _ zs.length _ rfl HS6.out _ 1 _ rfl HRD.out (by simpa using oneE x) (by unfold maxLen; omega) (by omega) ?_; intro v11 w11 hs11 h11; obtain ⟨va, vc, rfl⟩ := hs11.own_shape; have HS11 := Lib.hid hs11; clear hs11 h11 HS6 HRD HL))
     go_roundw
     case rel =>
      refine ⟨j + 1, va, vc, zs ++ [x], by go_num, by rw [List.length_append]; rfl, by omega, by rw [HT.out, HZS.out], ?_⟩
      show Sat B D w11 (ownS tRea 19 (.slice va (zs ++ [x]).length vc) (zs ++ [x]).length ((zs ++ [x]).flatMap cellsE) :: _)
      rw [List.length_append, List.flatMap_append]
      have h9 := ((HS11.out.front 2 rfl).drop.front 1 rfl).drop
      simpa using h9
     case measure => simp [intOf]; omega
   ·have hne : (x.o != o) = true := by simpa using ho
    have HT := Lib.hid (filter_take_yes (q := keepO o dur hand) HX.out (by unfold keepO; simp [ho]))
    have HL := Lib.hid (loadE (blk_range (HS5.out.blk 0 rfl)))
    have HS6 := Lib.hid ((HS5.out.alloc (cellsE x).toArray tRea).front 2 rfl)
    have HRD := Lib.hid (rd_block (size := 19) (n := 1) (HS6.out.blk 1 rfl) (by simp [lenE]) (by unfold maxLen; omega))
    clear HS5 ho
    go_wp2_with (first | (refine wpList_ld rfl _ _ rfl _ _ rfl _ HL.out ?_) | (refine wpList_build_one rfl _ _ rfl tRea i0 _ (cellsE x) rfl Tryz.underlying59 HI.out.1 HI.out.2.1 (HI.out.2.2.1.trans rfl) (by rw [lenE]; decide) (by rw [lenE]; decide) ?_) | (at_builtin; refine wpList_append_Sat _ rfl _ _ tReas rfl tRea i0 _ 19 208 Tryz.underlying59 HI.out.1 HI.out.2.1 HI.out.2.2.1 HI.out.2.2.2 rfl _ zs.length _ rfl HS6.out _ 1 _ rfl HRD.out (by simpa using oneE x) (by unfold maxLen; omega) (by omega) ?_; intro v11 w11 hs11 h11; obtain ⟨va, vc, rfl⟩ := hs11.own_shape; have HS11 := Lib.hid hs11; clear hs11 h11 HS6 HRD HL))
    go_roundw
    case rel =>
     refine ⟨j + 1, va, vc, zs ++ [x], by go_num, by rw [List.length_append]; rfl, by omega, by rw [HT.out, HZS.out], ?_⟩
     show Sat B D w11 (ownS tRea 19 (.slice va (zs ++ [x]).length vc) (zs ++ [x]).length ((zs ++ [x]).flatMap cellsE) :: _)
     rw [List.length_append, List.flatMap_append]
     have h9 := ((HS11.out.front 2 rfl).drop.front 1 rfl).drop
     simpa using h9
    case measure => simp [intOf]; omega
  ·have hji : ¬ ((j : Int) < (N : Int)) := by omega
   have HT := Lib.hid (show zs = es.filter (keepO o dur hand) by rw [HZS.out, List.take_of_length_le (by rw [HN.out]; omega)])
   have HS4 := Lib.hid (Sat.set5e (HS3.out.front 1 rfl) (.slice oa zs.length oc))
   go_upto_region 9 with fail
   obtain ⟨W8, hW8, hs8⟩ := Sat.hide HS4.out
   rw [← hW8]
   clear hW8 HS4 HS3 q0 q1 q2 q3 q4 qf
   obtain ⟨D2, hle2, hE2, hs9⟩ := reas_give (hs8.front 1 rfl) (fun e he => by rw [HZS.out] at he; exact HR.out.2 e (List.mem_of_mem_take (List.mem_filter.1 he).1))
   obtain ⟨q0, q1, q2, q3, q4, qf⟩ := cells5v (hs9.blk 0 rfl)
   have HQ2 := Lib.hid (show QueD D2 (.agg #[.slice ha hs.length hcc, .slice wa ws.length wc]) d.q from ⟨_, _, hs, ws, rfl, HHH.out.1.mono hle2, HHH.out.2.1.mono hle2, HHH.out.2.2.1, HHH.out.2.2.2⟩)
   have HHO := Lib.hid (rqHolds_ok o HQ2.out (by omega) hs9)
   have HLE2 := Lib.hid hle2
   have HE2 := Lib.hid hE2
   clear hs8 hle2 hE2
   have HDOC := Lib.hid (show DocD D2 (.agg #[.slice ta d.ts.length tc, .int .i64 d.room, .slice ha hs.length hcc, .slice wa ws.length wc, .slice oa zs.length oc]) ⟨d.ts, d.room, d.q, overE d.r o dur hand⟩ from ⟨_, _, _, _, zs, rfl, HTT.out.mono HLE2.out, HQ2.out, HE2.out, by rw [HT.out]; exact HWO.out⟩)
   clear hs9
   go_upto_region 10 with (go_at_call 34; refine HHO.out.mono ?_; rintro e10 w10 ⟨hv10, cs, D3, rfl, hle3, hcs, hmap, hs10⟩; have HLE3 := Lib.hid hle3; have HCS := Lib.hid hcs; have HMP := Lib.hid hmap; obtain ⟨ca, cc, rfl⟩ := hcs.1.shape; have HS10 := Lib.hid (show Sat B D3 w10 (clsP (.slice none 0 0) [] :: _) from hs10.own_nil tCl 16); clear hle3 hcs hmap hs10 HHO q0 q1 q2 q3 q4 qf)
   obtain ⟨M, hM2⟩ : ∃ M, cs.length = M := ⟨_, rfl⟩
   have HM := Lib.hid hM2
   have hml : M ≤ 1000 := by
    have h1 := congrArg List.length HMP.out
    rw [List.length_map, hM2] at h1
    unfold holdsQ at h1
    rw [List.length_map] at h1
    have h2 := List.length_filter_le (ofE o) d.q.held
    omega
   rw [hM2] at HCS ⊢
   clear hM2
   go_wp2_with fail
   go_loopw [14, 15] (fun ot2 i2 wr2 => ∃ (k : Nat) (ga : Option Addr) (gc : Nat) (ds : List ClmE), i2 = .int .i64 k ∧ ot2 = .slice ga ds.length gc ∧ k ≤ M ∧ ds = (cs.take k).filter (fun c => !reasonE (overE d.r o dur hand) o c.c) ∧ Sat B D3 wr2 (clsP (.slice ga ds.length gc) ds :: blk b1 #[.slice ta d.ts.length tc, .int .i64 d.room, .slice ha hs.length hcc, .slice wa ws.length wc, .slice oa zs.length oc] tLkV :: blk b2 zLkV tLkV :: l)) (fun _ i2 _ => M - (intOf i2).toNat)
   case atStart => exact ⟨0, none, 0, [], rfl, rfl, by omega, rfl, HS10.out⟩
   case round =>
    obtain ⟨k, ga, gc, ds, rfl, rfl, hk, hds, hs11⟩ := hrel
    have hled : ds.length ≤ k := by rw [hds]; exact Nat.le_trans (List.length_filter_le _ _) (by rw [List.length_take]; omega)
    have HDS := Lib.hid hds
    have HS11 := Lib.hid hs11
    clear hds hs11 HS10
    by_cases hlt2 : k < M
    ·have hii2 : (k : Int) < (M : Int) := by omega
     obtain ⟨x, hx⟩ : ∃ x, cs[k]? = some x := ⟨cs[k]'(by rw [HM.out]; exact hlt2), List.getElem?_eq_getElem _⟩
     obtain ⟨g, og, rfl, hrng⟩ := elem_range ClmE.len (by have := HCS.out.1.rd HS11.out.drew; rw [HM.out] at this; exact this) hx HM.out
     have HLX := Lib.hid (loadCl (w := wr.drew) hrng)
     have HLV := Lib.hid (loadLkV (w := wr.drew) (HS11.out.drew.blk 1 rfl))
     have HRE := Lib.hid (rReason_ok o x (HDOC.out.mono HLE3.out) (HCS.out.2 x (List.mem_of_getElem? hx)) HS11.out.drew)
     have HX := Lib.hid hx
     obtain ⟨q0, q1, q2, q3, q4, qf⟩ := cells5v (HS11.out.blk 1 rfl)
     clear hx hrng
     go_upto_region 14 with fail
     obtain ⟨rs, hrs⟩ : ∃ rs, rs = reasonE (overE d.r o dur hand) o x.c := ⟨_, rfl⟩
     have HRS := Lib.hid hrs
     rw [show (DocM.mk d.ts d.room d.q (overE d.r o dur hand)).r = overE d.r o dur hand from rfl, ← hrs] at HRE
     clear hrs
     refine wp_region_canon [(0, false, 6), (1, false, 6), (2, false, 6), (3, false, 6), (4, false, 6), (5, false, 6), (6, true, 0), (7, false, 999)] (by kernel_rfl) (by kernel_rfl) ?_
     iterate 6 (refine wpCan_read rfl rfl (fun K hK => ?_); (first | ((refine still_ld _ _ rfl _ _ rfl _ HLX.out ?_); go_simp) | ((refine still_ld _ _ rfl _ _ rfl [_,_,_,_,_] HLV.out ?_); go_simp) | go_simp); refine hK _ ?_; clear hK K)
     refine wpCan_eff rfl ?_
     refine wpList_do rfl (fun K hK => ?_)
     go_simp
     refine HRE.out.mono ?_
     rintro e12 w12 ⟨rfl, hs12⟩
     have HS12 := Lib.hid hs12
     clear hs12 HRE HLX HLV HS11 q0 q1 q2 q3 q4 qf
     refine hK _ _ ?_
     clear hK K
     refine wpList_nil ?_
     refine And.intro ?_ ?_
     ·go_simp
     iterate 1 (refine wpCan_read rfl rfl (fun K hK => ?_); (first | ((refine still_ld _ _ rfl _ _ rfl _ HLX.out ?_); go_simp) | ((refine still_ld _ _ rfl _ _ rfl [_,_,_,_,_] HLV.out ?_); go_simp) | go_simp); refine hK _ ?_; clear hK K)
     refine wpCan_nil ?_
     cases rs
     ·have HT2 := Lib.hid (filter_take_yes (q := fun c : ClmE => !reasonE (overE d.r o dur hand) o c.c) HX.out (by rw [← HRS.out]; rfl))
      obtain ⟨g', og', hg', hrng'⟩ := elem_range ClmE.len (by have := HCS.out.1.rd HS12.out; rw [HM.out] at this; exact this) HX.out HM.out
      cases hg'
      have HL := Lib.hid (loadCl hrng')
      have HS13 := Lib.hid ((HS12.out.alloc x.cells.toArray tCl).front 1 rfl)
      have HRD := Lib.hid (rd_block (size := 16) (n := 1) (HS13.out.blk 1 rfl) rfl (by unfold maxLen; omega))
      clear hrng' HS12
      go_wp2_with (first | (refine wpList_ld rfl _ _ rfl _ _ rfl _ HL.out ?_) | (refine wpList_build_one rfl _ _ rfl tCl i1 _ x.cells rfl Tryz.underlying45 HI1.out.1 HI1.out.2.1 (HI1.out.2.2.1.trans rfl) (by rw [ClmE.len]; decide) (by rw [ClmE.len]; decide) ?_) | (at_builtin; refine wpList_append_Sat _ rfl _ _ tCs rfl tCl i1 _ 16 184 Tryz.underlying45 HI1.out.1 HI1.out.2.1 HI1.out.2.2.1 HI1.out.2.2.2 rfl _ ds.length _ rfl HS13.out _ 1 _ rfl HRD.out (by simpa using ClmE.one x) (by unfold maxLen; omega) (by omega) ?_; intro v14 w14 hs14 h14; obtain ⟨va, vc, rfl⟩ := hs14.own_shape; have HS14 := Lib.hid hs14; clear hs14 h14 HS13 HRD HL))
      go_roundw
      case rel =>
       refine ⟨k + 1, va, vc, ds ++ [x], by go_num, by rw [List.length_append]; rfl, by omega, by rw [HT2.out, HDS.out], ?_⟩
       show Sat B D3 w14 (ownS tCl 16 (.slice va (ds ++ [x]).length vc) (ds ++ [x]).length ((ds ++ [x]).flatMap ClmE.cells) :: _)
       rw [List.length_append, List.flatMap_append]
       have h9 := (HS14.out.front 1 rfl).drop
       simpa using h9
      case measure => simp [intOf]; omega
     ·have HT2 := Lib.hid (filter_take_no (q := fun c : ClmE => !reasonE (overE d.r o dur hand) o c.c) HX.out (by rw [← HRS.out]; rfl))
      go_wp2_with fail
      go_roundw
      case rel => exact ⟨k + 1, ga, gc, ds, by go_num, rfl, by omega, by rw [HT2.out]; exact HDS.out, HS12.out⟩
      case measure => simp [intOf]; omega
    ·have hii2 : ¬ ((k : Int) < (M : Int)) := by omega
     have HT2 := Lib.hid (show ds = cs.filter (fun c => !reasonE (overE d.r o dur hand) o c.c) by rw [HDS.out, List.take_of_length_le (by rw [HM.out]; omega)])
     obtain ⟨D4, hle4, hcd, hs12⟩ := clsP_give HS11.out (fun c hc => by rw [HT2.out] at hc; exact HCS.out.2 c (List.mem_filter.1 hc).1)
     have hmap2 : ds.map ClmE.c = (holdsQ d.q o).filter (fun c => !reasonE (overE d.r o dur hand) o c) := by rw [HT2.out, ← HMP.out, List.filter_map]; rfl
     have HDR := Lib.hid (rqDrop_ok o (HQ2.out.mono (HLE3.out.trans hle4)) hcd hQ hs12)
     rw [hmap2] at HDR
     obtain ⟨q0, q1, q2, q3, q4, qf⟩ := cells5v (hs12.blk 0 rfl)
     have HLE4 := Lib.hid (HLE2.out.trans (HLE3.out.trans hle4))
     have HLE24 := Lib.hid (HLE3.out.trans hle4)
     clear hle4 hcd hs12 hmap2 HS11
     go_upto_region 18 with (first | (go_at_call 103; refine HDR.out.mono ?_; rintro e15 w15 ⟨v15, iv, D5, rfl, hle5, hq5, hs15⟩; obtain ⟨hv5, wv5, hs5', ws5', rfl, hh5, hw5, hhq5, hwq5⟩ := hq5; obtain ⟨ha5, hc5, rfl⟩ := hh5.1.shape; obtain ⟨wa5, wc5, rfl⟩ := hw5.1.shape; have HLE5 := Lib.hid hle5; have HQ5 := Lib.hid (And.intro hh5 (And.intro hw5 (And.intro hhq5 hwq5))); have HS15 := Lib.hid (hs15.alloc #[.slice ha5 hs5'.length hc5, .slice wa5 ws5'.length wc5] tRq); clear hle5 hh5 hw5 hhq5 hwq5 hs15 HDR q0 q1 q2 q3 q4 qf))
     obtain ⟨W16, hW16, hs16⟩ := Sat.hide HS15.out
     rw [← hW16]
     clear hW16 HS15
     generalize w15.heap.size = bq at hs16 ⊢
     obtain ⟨p0, p1, pf⟩ := cells2 (hs16.blk 0 rfl)
     obtain ⟨q0, q1, q2, q3, q4, qf⟩ := cells5v (hs16.blk 2 rfl)
     have HS17 := Lib.hid (Sat.set5q (hs16.front 2 rfl) (.slice ha5 hs5'.length hc5) (.slice wa5 ws5'.length wc5))
     clear hs16
     go_upto_region 19 with fail
     obtain ⟨W18, hW18, hs18⟩ := Sat.hide HS17.out
     rw [← hW18]
     clear hW18 HS17 p0 p1 pf q0 q1 q2 q3 q4 qf
     have HLV := Lib.hid (loadLkV (hs18.blk 0 rfl))
     have HS18 := Lib.hid (hs18.front 3 rfl)
     clear hs18
     go_wp2_with (first | (refine wpList_ld rfl _ _ rfl _ _ rfl [_, _, _, _, _] HLV.out ?_) | (refine wpList_store_whole rfl _ _ _ rfl tLkV b2 rfl [.slice ta d.ts.length tc, .int .i64 d.room, .slice ha5 hs5'.length hc5, .slice wa5 ws5'.length wc5, .slice oa zs.length oc] rfl zLkV HS18.out (by kernel_rfl) rfl (by intro u hu; simp at hu; rcases hu with rfl | rfl | rfl | rfl | rfl <;> rfl) ?_; intro w20 hs20; have HS20 := Lib.hid hs20; clear hs20 HS18))
     refine bodyPost_ret (results_c2 rfl _ _ rfl (loadLkV (HS20.out.blk 0 rfl))) rfl ?_
     refine ⟨_, _, D5, rfl, HLE4.out.trans HLE5.out, ⟨_, _, _, _, zs, rfl, (HTT.out.mono HLE4.out).mono HLE5.out, ⟨_, _, hs5', ws5', rfl, HQ5.out.1, HQ5.out.2.1, HQ5.out.2.2.1, HQ5.out.2.2.2⟩, (HE2.out.mono HLE24.out).mono HLE5.out, by rw [HT.out]; exact HWO.out⟩, ?_⟩
     exact HS20.out.drop.drop.drop
end Go.Proofs.YtgljdkjepdknnaaGreatDoor
