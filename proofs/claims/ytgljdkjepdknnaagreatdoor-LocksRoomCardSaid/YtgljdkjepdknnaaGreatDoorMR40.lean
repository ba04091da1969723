/- Joined texts: The document's locks (ratlineref11) in memory, by value; new ones; whether there is a reason. Reasons of the document without some (ratlineref11.Locks.without). (printed by genrk2.py) -/
import Derived.Test.YtgljdkjepdknnaaGreatDoorMR36
import Derived.Test.YtgljdkjepdknnaaGreatDoorMR22
import Derived.Test.YtgljdkjepdknnaaGreatDoorMR27
import Derived.Test.YtgljdkjepdknnaaGreatDoorMR26
/- The document's locks (ratlineref11) in memory, by value; new ones; whether there is a reason. -/
namespace Go.Proofs.YtgljdkjepdknnaaGreatDoor
open Go.ChangeShapes Go.WideShapes Go.ChangeAt Go.RowKit
set_option maxRecDepth 100000
set_option linter.unusedSimpArgs false

abbrev tRea : TypeId := 135
abbrev tReas : TypeId := 59
abbrev tLkV : TypeId := 61
/-- a reason's words in memory -/
structure ReaE where
 o : Int
 x : ClmE
 dur : Int
 hand : Int
def cellsE (e : ReaE) : List Value := [.int .i64 e.o, .int .i64 e.x.kind, .int .i64 e.x.table, .int .i64 e.x.mode, .bool e.x.key.t, .int .i64 e.x.key.n, .string e.x.key.s, .slice e.x.ia e.x.il e.x.ic, .int .i64 e.x.pr.op, .int .i64 e.x.pr.col, .bool e.x.pr.v.t, .int .i64 e.x.pr.v.n, .string e.x.pr.v.s, .bool e.x.pr.w.t, .int .i64 e.x.pr.w.n, .string e.x.pr.w.s, .slice e.x.pr.la e.x.pr.ln e.x.pr.lc, .int .i64 e.dur, .int .i64 e.hand]
abbrev reaE (e : ReaE) : Rea := ⟨e.o, e.x.c, e.dur, e.hand⟩
theorem lenE (e : ReaE) : (cellsE e).length = 19 := rfl
theorem oneE (e : ReaE) : ∀ u ∈ cellsE e, u.oneCell' = true := by intro u hu; simp [cellsE] at hu; rcases hu with rfl | rfl | rfl | rfl | rfl | rfl | rfl | rfl | rfl | rfl | rfl | rfl | rfl | rfl | rfl | rfl | rfl | rfl | rfl <;> rfl
@[go_sem] theorem sizeE (e : ReaE) : (cellsE e).toArray.size = 19 := rfl
theorem loadE {w : World} {g o : Nat} {e : ReaE} (h : w.rangeAt g o (cellsE e)) : (loadVar tRea ⟨g, o, none⟩).run Tryz.prog w = .ok (.agg (cellsE e).toArray) w := run_loadVar_mid w g o _ _ _ h Tryz.underlying135 rfl (by kernel_rfl)
theorem rangeE {w : World} {g o : Nat} {e : ReaE} (h : w.rangeAt g o (cellsE e)) : w.rangeAt g (o + 1) e.x.cells ∧ w.cell? ⟨g, o, none⟩ = some (.int .i64 e.o) ∧ w.cell? ⟨g, o + 17, none⟩ = some (.int .i64 e.dur) ∧ w.cell? ⟨g, o + 18, none⟩ = some (.int .i64 e.hand) := by
 refine ⟨fun j v hv => ?_, h 0 _ rfl, h 17 _ rfl, h 18 _ rfl⟩
 have hj : j < 16 := by have := (List.getElem?_eq_some_iff.1 hv).1; rwa [ClmE.len] at this
 have := h (j + 1) v (by
  rw [← hv]
  show (e.x.cells ++ [.int .i64 e.dur, .int .i64 e.hand])[j]? = _
  rw [List.getElem?_append_left (by rw [ClmE.len]; exact hj)])
 rw [show o + 1 + j = o + (j + 1) by omega]
 exact this
/-- reasons that lie in the pool -/
def ReasD (D : PH) (v : Value) (es : List ReaE) : Prop := RdP D 19 v es.length (es.flatMap cellsE) ∧ ∀ e ∈ es, ClOk D e.x
theorem ReasD.mono {D D' : PH} {v : Value} {es : List ReaE} (h : ReasD D v es) (le : PH.le D D') : ReasD D' v es := ⟨h.1.mono le, fun e he => (h.2 e he).mono le⟩
abbrev reasP (v : Value) (es : List ReaE) : HP := ownS tRea 19 v es.length (es.flatMap cellsE)
theorem reas_give {B w : World} {D : PH} {l : List HP} {v : Value} {es : List ReaE} (h : Sat B D w (reasP v es :: l)) (hz : ∀ e ∈ es, ClOk D e.x) : ∃ D', PH.le D D' ∧ ReasD D' v es ∧ Sat B D' w l := by
 obtain ⟨D', hle, hrd, hs⟩ := h.own_give
 exact ⟨D', hle, ⟨hrd, fun e he => (hz e he).mono hle⟩, hs⟩
theorem flat_oneE (es : List ReaE) : ∀ u ∈ es.flatMap cellsE, u.oneCell' = true := fun u hu => by
 obtain ⟨e, _, hu⟩ := List.mem_flatMap.1 hu
 exact oneE e u hu
theorem infoRea : (Tryz.prog.info? tRea).map (fun i => (i.zero, i.size, i.bytes)) = some (some (.agg #[.int .i64 0, .int .i64 0, .int .i64 0, .int .i64 0, .bool false, .int .i64 0, .string ⟨#[]⟩, .slice none 0 0, .int .i64 0, .int .i64 0, .bool false, .int .i64 0, .string ⟨#[]⟩, .bool false, .int .i64 0, .string ⟨#[]⟩, .slice none 0 0, .int .i64 0, .int .i64 0]), 19, 208) := by kernel_rfl
/-- the document's locks, as data -/
structure DocM where
 ts : List (List Bool)
 room : Int
 q : Qm Clm
 r : List Rea
/-- .. by value, what lies under them in the pool -/
def DocD (D : PH) (v : Value) (d : DocM) : Prop := ∃ (tv hv wv rv : Value) (es : List ReaE), v = .agg #[tv, .int .i64 d.room, hv, wv, rv] ∧ TblsAt D tv d.ts ∧ QueD D (.agg #[hv, wv]) d.q ∧ ReasD D rv es ∧ es.map reaE = d.r
theorem DocD.mono {D D' : PH} {v : Value} {d : DocM} (h : DocD D v d) (le : PH.le D D') : DocD D' v d := by
 obtain ⟨tv, hv, wv, rv, es, a, b, c, e, f⟩ := h
 exact ⟨tv, hv, wv, rv, es, a, b.mono le, c.mono le, e.mono le, f⟩
def DocGot (B : World) (D : PH) (l : List HP) (d : DocM) (r : Ending) (w' : World) : Prop := ∃ (v : Value) (D' : PH), r = .returned v ∧ PH.le D D' ∧ DocD D' v d ∧ Sat B D' w' l
theorem cells5v {w : World} {b : Nat} {y0 y1 y2 y3 y4 : Value} {t : TypeId} (h : w.heap[b]? = some (.cells #[y0, y1, y2, y3, y4] t (0, 0))) : w.cell? ⟨b, 0, none⟩ = some y0 ∧ w.cell? ⟨b, 1, none⟩ = some y1 ∧ w.cell? ⟨b, 2, none⟩ = some y2 ∧ w.cell? ⟨b, 3, none⟩ = some y3 ∧ w.cell? ⟨b, 4, none⟩ = some y4 ∧ (∀ j, w.frozen? ⟨b, j, none⟩ = false) := by
 refine ⟨?_, ?_, ?_, ?_, ?_, fun j => ?_⟩ <;> simp [World.cell?, World.frozen?, h]
theorem loadLkV {w : World} {b : Nat} {y0 y1 y2 y3 y4 : Value} {t : TypeId} {fr : Nat × Nat} (h : w.heap[b]? = some (.cells #[y0, y1, y2, y3, y4] t fr)) : (loadVar tLkV ⟨b, 0, none⟩).run Tryz.prog w = .ok (.agg #[y0, y1, y2, y3, y4]) w :=
 run_loadVar_mid w b 0 _ _ _ (blk_range (cs := [y0, y1, y2, y3, y4]) h) Tryz.underlying61 rfl (by kernel_rfl)
abbrev zLkV : Array Value := #[.slice none 0 0, .int .i64 0, .slice none 0 0, .slice none 0 0, .slice none 0 0]
set_option maxHeartbeats 2000000 in
theorem rNew_ok {B w : World} {D : PH} {l : List HP} {tv : Value} {ts : List (List Bool)} (room : Int) (ht : TblsAt D tv ts) (h : Sat B D w l) :
  Calls Tryz.prog 22 #[tv, .int .i64 room] w (DocGot B D l ⟨ts, min (max room 0) 200, ⟨[], []⟩, []⟩) := by
 obtain ⟨rm, hrm⟩ : ∃ rm, rm = min (max room 0) 200 := ⟨_, rfl⟩
 have HRM := Lib.hid hrm
 rw [← hrm]
 have HS := Lib.hid h
 have HT := Lib.hid ht
 obtain ⟨us, _, _, hrd, _⟩ := id ht
 obtain ⟨ta, tc, rfl⟩ := hrd.shape
 have h3 : (room < 0 ∧ rm = 0) ∨ (¬ room < 0 ∧ 200 < room ∧ rm = 200) ∨ (¬ room < 0 ∧ ¬ 200 < room ∧ rm = room) := by rw [hrm]; omega
 clear h ht hrm hrd HRM
 rcases h3 with ⟨h1, rfl⟩ | ⟨h1, h2, rfl⟩ | ⟨h1, h2, rfl⟩
 all_goals
  go_enter Tryz.func22, Tryz.ntmps22
  go_wp2_with fail
  refine bodyPost_ret (results_c1 rfl _ _ rfl (loadLkV (heap_alloc_self _ _))) rfl ?_
  exact ⟨_, D, rfl, PH.le.refl _, ⟨_, _, _, _, [], rfl, HT.out, ⟨_, _, [], [], rfl, ⟨RdP.nil D 18, fun e he => by cases he⟩, ⟨RdP.nil D 18, fun e he => (by cases he)⟩, rfl, rfl⟩, ⟨RdP.nil D 19, fun e he => by cases he⟩, rfl⟩, (HS.out.alloc _ _).drop⟩
/-- .. opened in a box -/
theorem docBox {B w : World} {D : PH} {l : List HP} {v : Value} {d : DocM} (hd : DocD D v d) (s : Sat B D w l) : ∃ (ta ha wa ra : Option Addr) (tc hc wc rc : Nat) (hs ws : List EntE) (es : List ReaE), v = .agg #[.slice ta d.ts.length tc, .int .i64 d.room, .slice ha hs.length hc, .slice wa ws.length wc, .slice ra es.length rc] ∧ TblsAt D (.slice ta d.ts.length tc) d.ts ∧ EntsD D (.slice ha hs.length hc) hs ∧ EntsD D (.slice wa ws.length wc) ws ∧ hs.map entC = d.q.held ∧ ws.map entC = d.q.waits ∧ ReasD D (.slice ra es.length rc) es ∧ es.map reaE = d.r ∧
  Sat B D (w.alloc (.cells #[.slice ta d.ts.length tc, .int .i64 d.room, .slice ha hs.length hc, .slice wa ws.length wc, .slice ra es.length rc] tLkV)) (blk w.heap.size #[.slice ta d.ts.length tc, .int .i64 d.room, .slice ha hs.length hc, .slice wa ws.length wc, .slice ra es.length rc] tLkV :: l) := by
 obtain ⟨tv, hv, wv, rv, es, rfl, ht, ⟨hv', wv', hs, ws, hq, hh, hw, hhq, hwq⟩, hr, hrr⟩ := hd
 obtain ⟨rfl, rfl⟩ : hv = hv' ∧ wv = wv' := by simpa using hq
 obtain ⟨us, _, _, hrd, _⟩ := id ht
 obtain ⟨ta, tc, rfl⟩ := hrd.shape
 obtain ⟨ha, hc, rfl⟩ := hh.1.shape
 obtain ⟨wa, wc, rfl⟩ := hw.1.shape
 obtain ⟨ra, rc, rfl⟩ := hr.1.shape
 exact ⟨ta, ha, wa, ra, tc, hc, wc, rc, hs, ws, es, rfl, ht, hh, hw, hhq, hwq, hr, hrr, s.alloc _ _⟩
set_option maxHeartbeats 4000000 in
theorem rReason_ok {B w : World} {D : PH} {l : List HP} {v : Value} {d : DocM} (o : Int) (c : ClmE) (hd : DocD D v d) (hc : ClOk D c) (s : Sat B D w l) :
  Calls Tryz.prog 142 #[v, .int .i64 o, .agg c.cells.toArray] w fun r w' => r = .returned (.bool (reasonE d.r o c.c)) ∧ Sat B D w' l := by
 obtain ⟨ta, ha, wa, ra, tc, hcc, wc, rc, hs, ws, es, rfl, _, _, _, _, _, hr, hrr, hs1⟩ := docBox hd s
 obtain ⟨W1, hW1, hs2⟩ := Sat.hide (hs1.alloc c.cells.toArray tCl)
 rw [World.size_alloc] at hs2
 have HW1 := Lib.hid hW1
 have HS1 := Lib.hid hs2
 have HR := Lib.hid hr
 have HRE := Lib.hid (show reasonE d.r o c.c = es.any (fun e => decide (e.o = o) && RC.same e.x.c c.c) by unfold reasonE; rw [← hrr, List.any_map]; rfl)
 have HC := Lib.hid hc
 obtain ⟨N, hN⟩ : ∃ N, es.length = N := ⟨_, rfl⟩
 have HN := Lib.hid hN
 have hml := hr.1.2.1
 unfold maxLen at hml
 rw [HRE.out]
 rw [hN] at HR HW1 HS1 hml ⊢
 obtain ⟨rr, hrr2⟩ : ∃ rr, rr = es.any (fun e => decide (e.o = o) && RC.same e.x.c c.c) := ⟨_, rfl⟩
 rw [← hrr2]
 have HRR := Lib.hid hrr2
 clear hd s hs1 hs2 hW1 hr hrr hc hN HRE hrr2
 go_enter Tryz.func142, Tryz.ntmps142
 go_upto_region 1 with fail
 rw [← HW1.out]
 clear HW1
 generalize w.heap.size + 1 = b2 at *
 generalize w.heap.size = b1 at *
 go_wp2_with fail
 go_loopw [7] (fun i wr => ∃ j : Nat, i = .int .i64 j ∧ j ≤ N ∧ (es.take j).any (fun e => decide (e.o = o) && RC.same e.x.c c.c) = false ∧ Sat B D wr (blk b2 c.cells.toArray tCl :: blk b1 #[.slice ta d.ts.length tc, .int .i64 d.room, .slice ha hs.length hcc, .slice wa ws.length wc, .slice ra N rc] tLkV :: l)) (fun i _ => N - (intOf i).toNat)
 case atStart => exact ⟨0, rfl, by omega, rfl, HS1.out⟩
 case round =>
  obtain ⟨j, rfl, hj, hno, hs3⟩ := hrel
  have HNO := Lib.hid hno
  have HS3 := Lib.hid hs3
  clear hno hs3 HS1
  obtain ⟨q0, q1, q2, q3, q4, qf⟩ := cells5v (HS3.out.blk 1 rfl)
  by_cases hlt : j < N
  ·have hii : (j : Int) < (N : Int) := by omega
   obtain ⟨x, hx⟩ : ∃ x, es[j]? = some x := ⟨es[j]'(by rw [HN.out]; exact hlt), List.getElem?_eq_getElem _⟩
   obtain ⟨g, og, rfl, hrng⟩ := elem_range lenE (by have := HR.out.1.rd HS3.out.drew; rw [HN.out] at this; exact this) hx HN.out
   obtain ⟨hr1, y0, _, _⟩ := rangeE hrng
   have HLX := Lib.hid (loadCl (w := wr.drew) hr1)
   have HLC := Lib.hid (loadCl (w := wr.drew) (blk_range (HS3.out.drew.blk 0 rfl)))
   have HSS := Lib.hid (rcSame_ok ((HR.out.2 x (List.mem_of_getElem? hx)).rd HS3.out.drew) (HC.out.rd HS3.out.drew))
   have HSUC := Lib.hid (show (es.take (j + 1)).any (fun e => decide (e.o = o) && RC.same e.x.c c.c) = (decide (x.o = o) && RC.same x.x.c c.c) by rw [List.take_add_one, hx, List.any_append, HNO.out]; simp)
   have HRG := Lib.hid (show ∀ w2, Sat B D w2 (blk b2 c.cells.toArray tCl :: blk b1 #[.slice ta d.ts.length tc, .int .i64 d.room, .slice ha hs.length hcc, .slice wa ws.length wc, .slice (some ⟨g, og, none⟩) N rc] tLkV :: l) → w2.cell? ⟨g, og + j * 19, none⟩ = some (.int .i64 x.o) from fun w2 s2 => by
    obtain ⟨g', og', hg', hrng'⟩ := elem_range lenE (by have := HR.out.1.rd s2; rw [HN.out] at this; exact this) hx HN.out
    cases hg'
    exact (rangeE hrng').2.1)
   have HMEM := Lib.hid (List.mem_of_getElem? hx)
   clear hx hrng hr1 y0
   cases hsm : RC.same x.x.c c.c
   ·rw [hsm] at HSS
    have HF := Lib.hid (show (es.take (j + 1)).any (fun e => decide (e.o = o) && RC.same e.x.c c.c) = false by rw [HSUC.out, hsm]; simp)
    clear hsm
    go_upto_region 4 with fail
    refine wp_region_canon [(0, false, 7), (1, false, 7), (2, false, 7), (3, false, 7), (4, false, 7), (5, false, 7), (6, false, 7), (7, true, 0), (8, false, 999)] (by kernel_rfl) (by kernel_rfl) ?_
    iterate 7 (refine wpCan_read rfl rfl (fun K hK => ?_); (first | ((refine still_ld _ _ rfl _ _ rfl _ HLX.out ?_); go_simp) | ((refine still_ld _ _ rfl _ _ rfl _ HLC.out ?_); go_simp) | go_simp); refine hK _ ?_; clear hK K)
    refine wpCan_eff rfl ?_
    refine wpList_do rfl (fun K hK => ?_)
    go_simp
    refine HSS.out.mono ?_
    rintro e4 w4 ⟨rfl, hk4⟩
    have HS4 := Lib.hid (HS3.out.drew.kept hk4)
    clear hk4 HSS HLX HLC HS3 q0 q1 q2 q3 q4 qf
    refine hK _ _ ?_
    clear hK K
    refine wpList_nil ?_
    refine And.intro ?_ ?_
    ·go_simp
    iterate 1 (refine wpCan_read rfl rfl (fun K hK => ?_); (first | ((refine still_ld _ _ rfl _ _ rfl _ HLX.out ?_); go_simp) | ((refine still_ld _ _ rfl _ _ rfl _ HLC.out ?_); go_simp) | go_simp); refine hK _ ?_; clear hK K)
    refine wpCan_nil ?_
    obtain ⟨q0, q1, q2, q3, q4, qf⟩ := cells5v (HS4.out.blk 1 rfl)
    have y0 := HRG.out w4 HS4.out
    by_cases ho : x.o = o
    ·rw [ho] at y0
     go_wp2_with fail
     go_roundw
     case rel => exact ⟨j + 1, by go_num, by omega, HF.out, HS4.out⟩
     case measure => simp [intOf]; omega
    ·have hne : (x.o == o) = false := by simpa using ho
     go_wp2_with fail
     go_roundw
     case rel => exact ⟨j + 1, by go_num, by omega, HF.out, HS4.out⟩
     case measure => simp [intOf]; omega
   ·rw [hsm] at HSS
    have HSM := Lib.hid hsm
    clear hsm
    go_upto_region 4 with fail
    refine wp_region_canon [(0, false, 7), (1, false, 7), (2, false, 7), (3, false, 7), (4, false, 7), (5, false, 7), (6, false, 7), (7, true, 0), (8, false, 999)] (by kernel_rfl) (by kernel_rfl) ?_
    iterate 7 (refine wpCan_read rfl rfl (fun K hK => ?_); (first | ((refine still_ld _ _ rfl _ _ rfl _ HLX.out ?_); go_simp) | ((refine still_ld _ _ rfl _ _ rfl _ HLC.out ?_); go_simp) | go_simp); refine hK _ ?_; clear hK K)
    refine wpCan_eff rfl ?_
    refine wpList_do rfl (fun K hK => ?_)
    go_simp
    refine HSS.out.mono ?_
    rintro e4 w4 ⟨rfl, hk4⟩
    have HS4 := Lib.hid (HS3.out.drew.kept hk4)
    clear hk4 HSS HLX HLC HS3 q0 q1 q2 q3 q4 qf
    refine hK _ _ ?_
    clear hK K
    refine wpList_nil ?_
    refine And.intro ?_ ?_
    ·go_simp
    iterate 1 (refine wpCan_read rfl rfl (fun K hK => ?_); (first | ((refine still_ld _ _ rfl _ _ rfl _ HLX.out ?_); go_simp) | ((refine still_ld _ _ rfl _ _ rfl _ HLC.out ?_); go_simp) | go_simp); refine hK _ ?_; clear hK K)
    refine wpCan_nil ?_
    obtain ⟨q0, q1, q2, q3, q4, qf⟩ := cells5v (HS4.out.blk 1 rfl)
    have y0 := HRG.out w4 HS4.out
    by_cases ho : x.o = o
    ·have HT := Lib.hid (show es.any (fun e => decide (e.o = o) && RC.same e.x.c c.c) = true from List.any_eq_true.2 ⟨x, HMEM.out, by rw [HSM.out]; simp [ho]⟩)
     rw [ho] at y0
     go_wp2_with fail
     go_ret
     exact ⟨by rw [HRR.out, HT.out]; rfl, HS4.out.drop.drop⟩
    ·have hne : (x.o == o) = false := by simpa using ho
     have HF := Lib.hid (show (es.take (j + 1)).any (fun e => decide (e.o = o) && RC.same e.x.c c.c) = false by rw [HSUC.out]; simp [ho])
     go_wp2_with fail
     go_roundw
     case rel => exact ⟨j + 1, by go_num, by omega, HF.out, HS4.out⟩
     case measure => simp [intOf]; omega
  ·have hii : ¬ ((j : Int) < (N : Int)) := by omega
   have HF := Lib.hid (show es.any (fun e => decide (e.o = o) && RC.same e.x.c c.c) = false by have := HNO.out; rwa [List.take_of_length_le (by rw [HN.out]; omega)] at this)
   go_wp2_with fail
   go_ret
   exact ⟨by rw [HRR.out, HF.out]; rfl, HS3.out.drop.drop⟩
end Go.Proofs.YtgljdkjepdknnaaGreatDoor

/- Reasons of the document without some (ratlineref11.Locks.without). (printed by genrk2.py) -/
namespace Go.Proofs.YtgljdkjepdknnaaGreatDoor
open Go.ChangeShapes Go.WideShapes Go.ChangeAt Go.RowKit
set_option maxRecDepth 100000
set_option linter.unusedSimpArgs false

theorem Sat.set5e {B w : World} {D : PH} {l : List HP} {b : Nat} {t : TypeId} {y0 y1 y2 y3 y4 : Value} (hs : Sat B D w (Proofs.YtgljdkjepdknnaaGreatDoor.blk b #[y0, y1, y2, y3, y4] t :: l)) (u : Value) : Sat B D (w.setCell ⟨b, 4, none⟩ u) (Proofs.YtgljdkjepdknnaaGreatDoor.blk b #[y0, y1, y2, y3, u] t :: l) := hs.set 4 u
theorem three_newR {B w : World} {D : PH} {l : List HP} (h : Sat B D w l) (c1 c2 c3 : Array Value) (t1 t2 t3 : TypeId) : ∃ W, W = ((w.alloc (.cells c1 t1)).alloc (.cells c2 t2)).alloc (.cells c3 t3) ∧ Sat B D W (blk (w.heap.size + 1 + 1) c3 t3 :: blk (w.heap.size + 1) c2 t2 :: blk w.heap.size c1 t1 :: l) := by
 have h1 := ((h.alloc c1 t1).alloc c2 t2).alloc c3 t3
 simp only [World.size_alloc] at h1
 exact ⟨_, rfl, h1⟩
noncomputable def keepE (o : Int) (c : Clm) (e : ReaE) : Bool := decide (e.o ≠ o) || !RC.same e.x.c c
set_option maxHeartbeats 16000000 in
theorem rWithout_ok {B w : World} {D : PH} {l : List HP} {v : Value} {d : DocM} (o : Int) (c : ClmE) (hd : DocD D v d) (hc : ClOk D c) (hM : d.r.length ≤ 1000) (s : Sat B D w l) :
  Calls Tryz.prog 101 #[v, .int .i64 o, .agg c.cells.toArray] w (DocGot B D l ⟨d.ts, d.room, d.q, withoutE d.r o c.c⟩) := by
 obtain ⟨i0, hi, hz0, hz1, hz2⟩ := info_parts infoRea
 have HI := Lib.hid (And.intro hi (And.intro hz0 (And.intro hz1 hz2)))
 obtain ⟨ta, ha, wa, ra, tc, hcc, wc, rc, hs, ws, es, rfl, ht, hh, hw, hhq, hwq, hr, hrr, _⟩ := docBox hd s
 have hel : es.length ≤ 1000 := by rw [← List.length_map (f := reaE), hrr]; exact hM
 obtain ⟨N, hN⟩ : ∃ N, es.length = N := ⟨_, rfl⟩
 have HN := Lib.hid hN
 rw [hN] at hr hel ⊢
 obtain ⟨W1, hW1, hs1⟩ := three_newR s #[.slice ta d.ts.length tc, .int .i64 d.room, .slice ha hs.length hcc, .slice wa ws.length wc, .slice ra N rc] c.cells.toArray zLkV tLkV tCl tLkV
 have HW1 := Lib.hid hW1
 have HS1 := Lib.hid (show Sat B D W1 (reasP (.slice none 0 0) [] :: _) from hs1.own_nil tRea 19)
 have HR := Lib.hid hr
 have HTT := Lib.hid ht
 have HHH := Lib.hid (And.intro hh (And.intro hw (And.intro hhq hwq)))
 have HWO := Lib.hid (show (es.filter (keepE o c.c)).map reaE = withoutE d.r o c.c by unfold withoutE; rw [← hrr, List.filter_map]; rfl)
 have HC := Lib.hid hc
 clear hd s hs1 hW1 hr hrr hc hN ht hh hw hhq hwq hi hz0 hz1 hz2
 go_enter Tryz.func101, Tryz.ntmps101
 go_upto_region 1 with fail
 rw [← HW1.out]
 clear HW1
 generalize w.heap.size + 1 + 1 = b3 at *
 generalize w.heap.size + 1 = b2 at *
 generalize w.heap.size = b1 at *
 go_wp2_with fail
 go_loopw [7, 8] (fun ot i wr => ∃ (j : Nat) (oa : Option Addr) (oc : Nat) (zs : List ReaE), i = .int .i64 j ∧ ot = .slice oa zs.length oc ∧ j ≤ N ∧ zs = (es.take j).filter (keepE o c.c) ∧ Sat B D wr (reasP (.slice oa zs.length oc) zs :: blk b3 zLkV tLkV :: blk b2 c.cells.toArray tCl :: blk b1 #[.slice ta d.ts.length tc, .int .i64 d.room, .slice ha hs.length hcc, .slice wa ws.length wc, .slice ra N rc] tLkV :: l)) (fun _ i _ => N - (intOf i).toNat)
 case atStart => exact ⟨0, none, 0, [], rfl, rfl, by omega, rfl, HS1.out⟩
 case round =>
  obtain ⟨j, oa, oc, zs, rfl, rfl, hj, hzs, hs3⟩ := hrel
  have hle : zs.length ≤ j := by rw [hzs]; exact Nat.le_trans (List.length_filter_le _ _) (by rw [List.length_take]; omega)
  have HZS := Lib.hid hzs
  have HS3 := Lib.hid hs3
  clear hzs hs3 HS1
  obtain ⟨q0, q1, q2, q3, q4, qf⟩ := cells5v (HS3.out.blk 3 rfl)
  by_cases hlt : j < N
  ·have hii : (j : Int) < (N : Int) := by omega
   obtain ⟨x, hx⟩ : ∃ x, es[j]? = some x := ⟨es[j]'(by rw [HN.out]; exact hlt), List.getElem?_eq_getElem _⟩
   obtain ⟨g, og, rfl, hrng⟩ := elem_range lenE (by have := HR.out.1.rd HS3.out.drew; rw [HN.out] at this; exact this) hx HN.out
   have HLX := Lib.hid (loadCl (w := wr.drew) (rangeE hrng).1)
   have HLC := Lib.hid (loadCl (w := wr.drew) (blk_range (HS3.out.drew.blk 2 rfl)))
   have HSS := Lib.hid (rcSame_ok ((HR.out.2 x (List.mem_of_getElem? hx)).rd HS3.out.drew) (HC.out.rd HS3.out.drew))
   have HRG := Lib.hid (show ∀ w2 l2, Sat B D w2 l2 → w2.rangeAt g (og + j * 19) (cellsE x) from fun w2 l2 s2 => by
    obtain ⟨g', og', hg', hrng'⟩ := elem_range lenE (by have := HR.out.1.rd s2; rw [HN.out] at this; exact this) hx HN.out
    cases hg'
    exact hrng')
   have HX := Lib.hid hx
   clear hx hrng
   cases hsm : RC.same x.x.c c.c
   ·rw [hsm] at HSS
    have HSM := Lib.hid hsm
    clear hsm
    go_upto_region 5 with fail
    refine wp_region_canon [(0, false, 7), (1, false, 7), (2, false, 7), (3, false, 7), (4, false, 7), (5, false, 7), (6, false, 7), (7, true, 0), (8, false, 999)] (by kernel_rfl) (by kernel_rfl) ?_
    iterate 7 (refine wpCan_read rfl rfl (fun K hK => ?_); (first | ((refine still_ld _ _ rfl _ _ rfl _ HLX.out ?_); go_simp) | ((refine still_ld _ _ rfl _ _ rfl _ HLC.out ?_); go_simp) | go_simp); refine hK _ ?_; clear hK K)
    refine wpCan_eff rfl ?_
    refine wpList_do rfl (fun K hK => ?_)
    go_simp
    refine HSS.out.mono ?_
    rintro e4 w4 ⟨rfl, hk4⟩
    have HS4 := Lib.hid (HS3.out.drew.kept hk4)
    clear hk4 HSS HLX HLC HS3 q0 q1 q2 q3 q4 qf
    refine hK _ _ ?_
    clear hK K
    refine wpList_nil ?_
    refine And.intro ?_ ?_
    ·go_simp
    iterate 1 (refine wpCan_read rfl rfl (fun K hK => ?_); (first | ((refine still_ld _ _ rfl _ _ rfl _ HLX.out ?_); go_simp) | ((refine still_ld _ _ rfl _ _ rfl _ HLC.out ?_); go_simp) | go_simp); refine hK _ ?_; clear hK K)
    refine wpCan_nil ?_
    obtain ⟨q0, q1, q2, q3, q4, qf⟩ := cells5v (HS4.out.blk 3 rfl)
    have y0 := (rangeE (HRG.out w4 _ HS4.out)).2.1
    by_cases ho : x.o = o
    ·rw [ho] at y0
     have hne : (o != o) = false := by simp
     have HT := Lib.hid (filter_take_yes (q := keepE o c.c) HX.out (by unfold keepE; rw [HSM.out]; simp))
     have HS5 := Lib.hid ((HS4.out.alloc (cellsE x).toArray tRea).front 1 rfl)
     have HRD := Lib.hid (rd_block (size := 19) (n := 1) (HS5.out.blk 1 rfl) (by simp [lenE]) (by unfold maxLen; omega))
     have HL := Lib.hid (loadE (HRG.out w4 _ HS4.out))
     clear HS4
     go_wp2_with (first | (refine wpList_ld rfl _ _ rfl _ _ rfl _ HL.out ?_) | (refine wpList_build_one rfl _ _ rfl tRea i0 _ (cellsE x) rfl Tryz.underlying59 HI.out.1 HI.out.2.1 (HI.out.2.2.1.trans rfl) (by rw [lenE]; decide) (by rw [lenE]; decide) ?_) | (at_builtin; refine wpList_append_Sat _ rfl _ _ tReas rfl tRea i0 _ 19 208 Tryz.underlying59 HI.out.1 HI.out.2.1 HI.out.2.2.1 HI.out.2.2.2 rfl _ zs.length _ rfl HS5.out _ 1 _ rfl HRD.out (by simpa using oneE x) (by unfold maxLen; omega) (by omega) ?_; intro v11 w11 hs11 h11; obtain ⟨va, vc, rfl⟩ := hs11.own_shape; have HS11 := Lib.hid hs11; clear hs11 h11 HS5 HRD HL))
     go_roundw
     case rel =>
      refine ⟨j + 1, va, vc, zs ++ [x], by go_num, by rw [List.length_append]; rfl, by omega, by rw [HT.out, HZS.out], ?_⟩
      show Sat B D w11 (ownS tRea 19 (.slice va (zs ++ [x]).length vc) (zs ++ [x]).length ((zs ++ [x]).flatMap cellsE) :: _)
      rw [List.length_append, List.flatMap_append]
      have h9 := (HS11.out.front 1 rfl).drop
      simpa using h9
     case measure => simp [intOf]; omega
    ·have hne : (x.o != o) = true := by simpa using ho
     have HT := Lib.hid (filter_take_yes (q := keepE o c.c) HX.out (by unfold keepE; simp [ho]))
     have HS5 := Lib.hid ((HS4.out.alloc (cellsE x).toArray tRea).front 1 rfl)
     have HRD := Lib.hid (rd_block (size := 19) (n := 1) (HS5.out.blk 1 rfl) (by simp [lenE]) (by unfold maxLen; omega))
     have HL := Lib.hid (loadE (HRG.out w4 _ HS4.out))
     clear HS4
     go_wp2_with (first | (refine wpList_ld rfl _ _ rfl _ _ rfl _ HL.out ?_) | (refine wpList_build_one rfl _ _ rfl tRea i0 _ (cellsE x) rfl Tryz.underlying59 HI.out.1 HI.out.2.1 (HI.out.2.2.1.trans rfl) (by rw [lenE]; decide) (by rw [lenE]; decide) ?_) | (at_builtin; refine wpList_append_Sat _ rfl _ _ tReas rfl tRea i0 _ 19 208 Tryz.underlying59 HI.out.1 HI.out.2.1 HI.out.2.2.1 HI.out.2.2.2 rfl _ zs.length _ rfl HS5.out _ 1 _ rfl HRD.out (by simpa using oneE x) (by unfold maxLen; omega) (by omega) ?_; intro v11 w11 hs11 h11; obtain ⟨va, vc, rfl⟩ := hs11.own_shape; have HS11 := Lib.hid hs11; clear hs11 h11 HS5 HRD HL))
     go_roundw
     case rel =>
      refine ⟨j + 1, va, vc, zs ++ [x], by go_num, by rw [List.length_append]; rfl, by omega, by rw [HT.out, HZS.out], ?_⟩
      show Sat B D w11 (ownS tRea 19 (.slice va (zs ++ [x]).length vc) (zs ++ [x]).length ((zs ++ [x]).flatMap cellsE) :: _)
      rw [List.length_append, List.flatMap_append]
      have h9 := (HS11.out.front 1 rfl).drop
      simpa using h9
     case measure => simp [intOf]; omega
   ·rw [hsm] at HSS
    have HSM := Lib.hid hsm
    clear hsm
    go_upto_region 5 with fail
    refine wp_region_canon [(0, false, 7), (1, false, 7), (2, false, 7), (3, false, 7), (4, false, 7), (5, false, 7), (6, false, 7), (7, true, 0), (8, false, 999)] (by kernel_rfl) (by kernel_rfl) ?_
    iterate 7 (refine wpCan_read rfl rfl (fun K hK => ?_); (first | ((refine still_ld _ _ rfl _ _ rfl _ HLX.out ?_); go_simp) | ((refine still_ld _ _ rfl _ _ rfl _ HLC.out ?_); go_simp) | go_simp); refine hK _ ?_; clear hK K)
    refine wpCan_eff rfl ?_
    refine wpList_do rfl (fun K hK => ?_)
    go_simp
    refine HSS.out.mono ?_
    rintro e4 w4 ⟨rfl, hk4⟩
    have HS4 := Lib.hid (HS3.out.drew.kept hk4)
    clear hk4 HSS HLX HLC HS3 q0 q1 q2 q3 q4 qf
    refine hK _ _ ?_
    clear hK K
    refine wpList_nil ?_
    refine And.intro ?_ ?_
    ·go_simp
    iterate 1 (refine wpCan_read rfl rfl (fun K hK => ?_); (first | ((refine still_ld _ _ rfl _ _ rfl _ HLX.out ?_); go_simp) | ((refine still_ld _ _ rfl _ _ rfl _ HLC.out ?_); go_simp) | go_simp); refine hK _ ?_; clear hK K)
    refine wpCan_nil ?_
    obtain ⟨q0, q1, q2, q3, q4, qf⟩ := cells5v (HS4.out.blk 3 rfl)
    have y0 := (rangeE (HRG.out w4 _ HS4.out)).2.1
    by_cases ho : x.o = o
    ·rw [ho] at y0
     have hne : (o != o) = false := by simp
     have HT := Lib.hid (filter_take_no (q := keepE o c.c) HX.out (by unfold keepE; rw [HSM.out]; simp [ho]))
     clear HRG
     go_wp2_with fail
     go_roundw
     case rel => exact ⟨j + 1, oa, oc, zs, by go_num, rfl, by omega, by rw [HT.out]; exact HZS.out, HS4.out⟩
     case measure => simp [intOf]; omega
    ·have hne : (x.o != o) = true := by simpa using ho
     have HT := Lib.hid (filter_take_yes (q := keepE o c.c) HX.out (by unfold keepE; simp [ho]))
     have HS5 := Lib.hid ((HS4.out.alloc (cellsE x).toArray tRea).front 1 rfl)
     have HRD := Lib.hid (rd_block (size := 19) (n := 1) (HS5.out.blk 1 rfl) (by simp [lenE]) (by unfold maxLen; omega))
     have HL := Lib.hid (loadE (HRG.out w4 _ HS4.out))
     clear HS4
     go_wp2_with (first | (refine wpList_ld rfl _ _ rfl _ _ rfl _ HL.out ?_) | (refine wpList_build_one rfl _ _ rfl tRea i0 _ (cellsE x) rfl Tryz.underlying59 HI.out.1 HI.out.2.1 (HI.out.2.2.1.trans rfl) (by rw [lenE]; decide) (by rw [lenE]; decide) ?_) | (at_builtin; refine wpList_append_Sat _ rfl _ _ tReas rfl tRea i0 _ 19 208 Tryz.underlying59 HI.out.1 HI.out.2.1 HI.out.2.2.1 HI.out.2.2.2 rfl _ zs.length _ rfl HS5.out _ 1 _ rfl HRD.out (by simpa using oneE x) (by unfold maxLen; omega) (by omega) ?_; intro v11 w11 hs11 h11; obtain ⟨va, vc, rfl⟩ := hs11.own_shape; have HS11 := Lib.hid hs11; clear hs11 h11 HS5 HRD HL))
     go_roundw
     case rel =>
      refine ⟨j + 1, va, vc, zs ++ [x], by go_num, by rw [List.length_append]; rfl, by omega, by rw [HT.out, HZS.out], ?_⟩
      show Sat B D w11 (ownS tRea 19 (.slice va (zs ++ [x]).length vc) (zs ++ [x]).length ((zs ++ [x]).flatMap cellsE) :: _)
      rw [List.length_append, List.flatMap_append]
      have h9 := (HS11.out.front 1 rfl).drop
      simpa using h9
     case measure => simp [intOf]; omega
  ·have hji : ¬ ((j : Int) < (N : Int)) := by omega
   have HT := Lib.hid (show zs = es.filter (keepE o c.c) by rw [HZS.out, List.take_of_length_le (by rw [HN.out]; omega)])
   have HS4 := Lib.hid (Sat.set5e (HS3.out.front 3 rfl) (.slice oa zs.length oc))
   go_upto_region 9 with fail
   obtain ⟨W8, hW8, hs8⟩ := Sat.hide HS4.out
   rw [← hW8]
   clear hW8 HS4 HS3 q0 q1 q2 q3 q4 qf
   obtain ⟨D2, hle2, hE2, hs9⟩ := reas_give (hs8.front 1 rfl) (fun e he => by rw [HZS.out] at he; exact HR.out.2 e (List.mem_of_mem_take (List.mem_filter.1 he).1))
   have HLV := Lib.hid (loadLkV (hs9.blk 0 rfl))
   have HS9 := Lib.hid (hs9.front 1 rfl)
   have HLE2 := Lib.hid hle2
   have HE2 := Lib.hid hE2
   clear hs8 hs9 hE2 hle2
   go_wp2_with (first | (refine wpList_ld rfl _ _ rfl _ _ rfl [_, _, _, _, _] HLV.out ?_) | (refine wpList_store_whole rfl _ _ _ rfl tLkV b3 rfl [.slice ta d.ts.length tc, .int .i64 d.room, .slice ha hs.length hcc, .slice wa ws.length wc, .slice oa zs.length oc] rfl zLkV HS9.out (by kernel_rfl) rfl (by intro u hu; simp at hu; rcases hu with rfl | rfl | rfl | rfl | rfl <;> rfl) ?_; intro w20 hs20; have HS20 := Lib.hid hs20; clear hs20 HS9))
   refine bodyPost_end (results_c1 rfl _ _ rfl (loadLkV (HS20.out.blk 0 rfl))) rfl ?_
   refine ⟨_, D2, rfl, HLE2.out, ⟨_, _, _, _, zs, rfl, HTT.out.mono HLE2.out, ⟨_, _, hs, ws, rfl, HHH.out.1.mono HLE2.out, HHH.out.2.1.mono HLE2.out, HHH.out.2.2.1, HHH.out.2.2.2⟩, HE2.out, by rw [HT.out]; exact HWO.out⟩, HS20.out.drop.drop.drop⟩
end Go.Proofs.YtgljdkjepdknnaaGreatDoor
