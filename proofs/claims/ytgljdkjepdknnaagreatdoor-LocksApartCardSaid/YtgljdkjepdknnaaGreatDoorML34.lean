/- Joined texts: The document's locks (ratlineref11) in memory, by value; new ones; whether there is a reason. Reasons of the document without some (ratlineref11.Locks.without). (printed by genrk2.py) -/
import Derived.Test.YtgljdkjepdknnaaGreatDoorML30
import Derived.Test.YtgljdkjepdknnaaGreatDoorML18
import Derived.Test.YtgljdkjepdknnaaGreatDoorML22
import Derived.Test.YtgljdkjepdknnaaGreatDoorML21
set_option maxHeartbeats 64000000
namespace Go.Proofs.YtgljdkjepdknnaaGreatDoor
open Go.ChangeShapes Go.WideShapes Go.ChangeAt Go.RowKit
set_option maxRecDepth 100000
set_option linter.unusedSimpArgs false
abbrev ct : TypeId := 135
abbrev go : TypeId := 59
abbrev aQ : TypeId := 61
structure ReaE where
 o : Int
 x : ClmE
 dur : Int
 hand : Int
def aZ (e : ReaE) : List Value := [.int .i64 e.o, .int .i64 e.x.kind, .int .i64 e.x.table, .int .i64 e.x.mode, .bool e.x.key.t, .int .i64 e.x.key.n, .string e.x.key.s, .slice e.x.ia e.x.il e.x.ic, .int .i64 e.x.pr.op, .int .i64 e.x.pr.col, .bool e.x.pr.v.t, .int .i64 e.x.pr.v.n, .string e.x.pr.v.s, .bool e.x.pr.w.t, .int .i64 e.x.pr.w.n, .string e.x.pr.w.s, .slice e.x.pr.la e.x.pr.ln e.x.pr.lc, .int .i64 e.dur, .int .i64 e.hand]
abbrev iM (e : ReaE) : Rea := ⟨e.o, e.x.c, e.dur, e.hand⟩
theorem dA (e : ReaE) : (aZ e).length = 19 := rfl
theorem ku (e : ReaE) : ∀ u ∈ aZ e, u.oneCell' = true := by intro u hu; simp [aZ] at hu; rcases hu with rfl | rfl | rfl | rfl | rfl | rfl | rfl | rfl | rfl | rfl | rfl | rfl | rfl | rfl | rfl | rfl | rfl | rfl | rfl <;> rfl
@[go_sem] theorem sizeE (e : ReaE) : (aZ e).toArray.size = 19 := rfl
theorem j6 {w : World} {g o : Nat} {e : ReaE} (h : w.rangeAt g o (aZ e)) : (loadVar ct ⟨g, o, none⟩).run Tryz.prog w = .ok (.agg (aZ e).toArray) w := run_loadVar_mid w g o _ _ _ h Tryz.underlying135 rfl (by kernel_rfl)
theorem jY {w : World} {g o : Nat} {e : ReaE} (h : w.rangeAt g o (aZ e)) : w.rangeAt g (o + 1) e.x.cells ∧ w.cell? ⟨g, o, none⟩ = some (.int .i64 e.o) ∧ w.cell? ⟨g, o + 17, none⟩ = some (.int .i64 e.dur) ∧ w.cell? ⟨g, o + 18, none⟩ = some (.int .i64 e.hand) := by
 refine ⟨fun j v hv => ?_, h 0 _ rfl, h 17 _ rfl, h 18 _ rfl⟩
 have hj : j < 16 := by have := (List.getElem?_eq_some_iff.1 hv).1; rwa [ClmE.len] at this
 have := h (j + 1) v (by
  rw [← hv]
  show (e.x.cells ++ [.int .i64 e.dur, .int .i64 e.hand])[j]? = _
  rw [List.getElem?_append_left (by rw [ClmE.len]; exact hj)])
 rw [show o + 1 + j = o + (j + 1) by omega]
 exact this
def ReasD (D : PH) (v : Value) (es : List ReaE) : Prop := RdP D 19 v es.length (es.flatMap aZ) ∧ ∀ e ∈ es, ClOk D e.x
theorem ReasD.mono {D D' : PH} {v : Value} {es : List ReaE} (h : ReasD D v es) (le : PH.le D D') : ReasD D' v es := ⟨h.1.mono le, fun e he => (h.2 e he).mono le⟩
abbrev iJ (v : Value) (es : List ReaE) : HP := aI ct 19 v es.length (es.flatMap aZ)
theorem fo {B w : World} {D : PH} {l : List HP} {v : Value} {es : List ReaE} (h : Sat B D w (iJ v es :: l)) (hz : ∀ e ∈ es, ClOk D e.x) : ∃ D', PH.le D D' ∧ ReasD D' v es ∧ Sat B D' w l := by
 obtain ⟨D', hle, hrd, hs⟩ := h.own_give
 exact ⟨D', hle, ⟨hrd, fun e he => (hz e he).mono hle⟩, hs⟩
theorem jC (es : List ReaE) : ∀ u ∈ es.flatMap aZ, u.oneCell' = true := fun u hu => by
 obtain ⟨e, _, hu⟩ := List.mem_flatMap.1 hu
 exact ku e u hu
theorem i9 : (Tryz.prog.info? ct).map (fun i => (i.zero, i.size, i.bytes)) = some (some (.agg #[.int .i64 0, .int .i64 0, .int .i64 0, .int .i64 0, .bool false, .int .i64 0, .string ⟨#[]⟩, .slice none 0 0, .int .i64 0, .int .i64 0, .bool false, .int .i64 0, .string ⟨#[]⟩, .bool false, .int .i64 0, .string ⟨#[]⟩, .slice none 0 0, .int .i64 0, .int .i64 0]), 19, 208) := by kernel_rfl
structure DocM where
 ts : List (List Bool)
 room : Int
 q : Qm Clm
 r : List Rea
def DocD (D : PH) (v : Value) (d : DocM) : Prop := ∃ (tv hv wv rv : Value) (es : List ReaE), v = .agg #[tv, .int .i64 d.room, hv, wv, rv] ∧ TblsAt D tv d.ts ∧ QueD D (.agg #[hv, wv]) d.q ∧ ReasD D rv es ∧ es.map iM = d.r
theorem DocD.mono {D D' : PH} {v : Value} {d : DocM} (h : DocD D v d) (le : PH.le D D') : DocD D' v d := by
 obtain ⟨tv, hv, wv, rv, es, a, b, c, e, f⟩ := h
 exact ⟨tv, hv, wv, rv, es, a, b.mono le, c.mono le, e.mono le, f⟩
def uQ (B : World) (D : PH) (l : List HP) (d : DocM) (r : Ending) (w' : World) : Prop := ∃ (v : Value) (D' : PH), r = .returned v ∧ PH.le D D' ∧ DocD D' v d ∧ Sat B D' w' l
theorem aT {w : World} {b : Nat} {y0 y1 y2 y3 y4 : Value} {t : TypeId} (h : w.heap[b]? = some (.cells #[y0, y1, y2, y3, y4] t (0, 0))) : w.cell? ⟨b, 0, none⟩ = some y0 ∧ w.cell? ⟨b, 1, none⟩ = some y1 ∧ w.cell? ⟨b, 2, none⟩ = some y2 ∧ w.cell? ⟨b, 3, none⟩ = some y3 ∧ w.cell? ⟨b, 4, none⟩ = some y4 ∧ (∀ j, w.frozen? ⟨b, j, none⟩ = false) := by
 refine ⟨?_, ?_, ?_, ?_, ?_, fun j => ?_⟩ <;> simp [World.cell?, World.frozen?, h]
theorem aG {w : World} {b : Nat} {y0 y1 y2 y3 y4 : Value} {t : TypeId} {fr : Nat × Nat} (h : w.heap[b]? = some (.cells #[y0, y1, y2, y3, y4] t fr)) : (loadVar aQ ⟨b, 0, none⟩).run Tryz.prog w = .ok (.agg #[y0, y1, y2, y3, y4]) w :=
 run_loadVar_mid w b 0 _ _ _ (ak (cs := [y0, y1, y2, y3, y4]) h) Tryz.underlying61 rfl (by kernel_rfl)
abbrev cp : Array Value := #[.slice none 0 0, .int .i64 0, .slice none 0 0, .slice none 0 0, .slice none 0 0]
theorem re {B w : World} {D : PH} {l : List HP} {tv : Value} {ts : List (List Bool)} (room : Int) (ht : TblsAt D tv ts) (h : Sat B D w l) :
  Calls Tryz.prog 22 #[tv, .int .i64 room] w (uQ B D l ⟨ts, min (max room 0) 200, ⟨[], []⟩, []⟩) := by
 obtain ⟨rm, hrm⟩ : ∃ rm, rm = min (max room 0) 200 := ⟨_, rfl⟩
 have AE := Eh hrm
 rw [← hrm]
 have HS := Eh h
 have HT := Eh ht
 obtain ⟨us, _, _, hrd, _⟩ := id ht
 obtain ⟨ta, tc, rfl⟩ := hrd.shape
 have h3 : (room < 0 ∧ rm = 0) ∨ (¬ room < 0 ∧ 200 < room ∧ rm = 200) ∨ (¬ room < 0 ∧ ¬ 200 < room ∧ rm = room) := by rw [hrm]; omega
 clear h ht hrm hrd AE
 rcases h3 with ⟨h1, rfl⟩ | ⟨h1, h2, rfl⟩ | ⟨h1, h2, rfl⟩
 all_goals
  go_enter Tryz.func22, Tryz.ntmps22
  go_wp2_with fail
  refine bodyPost_ret (cO rfl _ _ rfl (aG (aC _ _))) rfl ?_
  exact ⟨_, D, rfl, PH.le.refl _, ⟨_, _, _, _, [], rfl, HT.out, ⟨_, _, [], [], rfl, ⟨RdP.nil D 18, fun e he => by cases he⟩, ⟨RdP.nil D 18, fun e he => (by cases he)⟩, rfl, rfl⟩, ⟨RdP.nil D 19, fun e he => by cases he⟩, rfl⟩, (HS.out.alloc _ _).drop⟩
theorem lC {B w : World} {D : PH} {l : List HP} {v : Value} {d : DocM} (hd : DocD D v d) (s : Sat B D w l) : ∃ (ta ha wa ra : Option Addr) (tc hc wc rc : Nat) (hs ws : List EntE) (es : List ReaE), v = .agg #[.slice ta d.ts.length tc, .int .i64 d.room, .slice ha hs.length hc, .slice wa ws.length wc, .slice ra es.length rc] ∧ TblsAt D (.slice ta d.ts.length tc) d.ts ∧ EntsD D (.slice ha hs.length hc) hs ∧ EntsD D (.slice wa ws.length wc) ws ∧ hs.map aE = d.q.held ∧ ws.map aE = d.q.waits ∧ ReasD D (.slice ra es.length rc) es ∧ es.map iM = d.r ∧
  Sat B D (w.alloc (.cells #[.slice ta d.ts.length tc, .int .i64 d.room, .slice ha hs.length hc, .slice wa ws.length wc, .slice ra es.length rc] aQ)) (blk w.heap.size #[.slice ta d.ts.length tc, .int .i64 d.room, .slice ha hs.length hc, .slice wa ws.length wc, .slice ra es.length rc] aQ :: l) := by
 obtain ⟨tv, hv, wv, rv, es, rfl, ht, ⟨hv', wv', hs, ws, hq, hh, hw, hhq, hwq⟩, hr, hrr⟩ := hd
 obtain ⟨rfl, rfl⟩ : hv = hv' ∧ wv = wv' := by simpa using hq
 obtain ⟨us, _, _, hrd, _⟩ := id ht
 obtain ⟨ta, tc, rfl⟩ := hrd.shape
 obtain ⟨ha, hc, rfl⟩ := hh.1.shape
 obtain ⟨wa, wc, rfl⟩ := hw.1.shape
 obtain ⟨ra, rc, rfl⟩ := hr.1.shape
 exact ⟨ta, ha, wa, ra, tc, hc, wc, rc, hs, ws, es, rfl, ht, hh, hw, hhq, hwq, hr, hrr, s.alloc _ _⟩
theorem qi {B w : World} {D : PH} {l : List HP} {v : Value} {d : DocM} (o : Int) (c : ClmE) (hd : DocD D v d) (hc : ClOk D c) (s : Sat B D w l) :
  Calls Tryz.prog 142 #[v, .int .i64 o, .agg c.cells.toArray] w fun r w' => r = .returned (.bool (cT d.r o c.c)) ∧ Sat B D w' l := by
 obtain ⟨ta, ha, wa, ra, tc, hcc, wc, rc, hs, ws, es, rfl, _, _, _, _, _, hr, hrr, hs1⟩ := lC hd s
 obtain ⟨W1, hW1, hs2⟩ := Sat.hide (hs1.alloc c.cells.toArray tCl)
 rw [World.size_alloc] at hs2
 have uW := Eh hW1
 have uX := Eh hs2
 have HR := Eh hr
 have zo := Eh (show cT d.r o c.c = es.any (fun e => decide (e.o = o) && RC.same e.x.c c.c) by unfold cT; rw [← hrr, List.any_map]; rfl)
 have HC := Eh hc
 obtain ⟨N, hN⟩ : ∃ N, es.length = N := ⟨_, rfl⟩
 have HN := Eh hN
 have hml := hr.1.2.1
 unfold maxLen at hml
 rw [zo.out]
 rw [hN] at HR uW uX hml ⊢
 obtain ⟨rr, hrr2⟩ : ∃ rr, rr = es.any (fun e => decide (e.o = o) && RC.same e.x.c c.c) := ⟨_, rfl⟩
 rw [← hrr2]
 have vA := Eh hrr2
 clear hd s hs1 hs2 hW1 hr hrr hc hN zo hrr2
 go_enter Tryz.func142, Tryz.ntmps142
 go_upto_region 1 with fail
 rw [← uW.out]
 clear uW
 generalize w.heap.size + 1 = b2 at *
 generalize w.heap.size = b1 at *
 go_wp2_with fail
 go_loopw [7] (fun i wr => ∃ j : Nat, i = .int .i64 j ∧ j ≤ N ∧ (es.take j).any (fun e => decide (e.o = o) && RC.same e.x.c c.c) = false ∧ Sat B D wr (blk b2 c.cells.toArray tCl :: blk b1 #[.slice ta d.ts.length tc, .int .i64 d.room, .slice ha hs.length hcc, .slice wa ws.length wc, .slice ra N rc] aQ :: l)) (fun i _ => N - (intOf i).toNat)
 case atStart => exact ⟨0, rfl, by omega, rfl, uX.out⟩
 case round =>
  obtain ⟨j, rfl, hj, hno, hs3⟩ := hrel
  have vT := Eh hno
  have uY := Eh hs3
  clear hno hs3 uX
  obtain ⟨q0, q1, q2, q3, q4, qf⟩ := aT (uY.out.blk 1 rfl)
  by_cases hlt : j < N
  ·have hii : (j : Int) < (N : Int) := by omega
   obtain ⟨x, hx⟩ : ∃ x, es[j]? = some x := ⟨es[j]'(by rw [HN.out]; exact hlt), List.getElem?_eq_getElem _⟩
   obtain ⟨g, og, rfl, hrng⟩ := aF dA (by have := HR.out.1.rd uY.out.drew; rw [HN.out] at this; exact this) hx HN.out
   obtain ⟨hr1, y0, _, _⟩ := jY hrng
   have vt := Eh (az (w := wr.drew) hr1)
   have vr := Eh (az (w := wr.drew) (ak (uY.out.drew.blk 0 rfl)))
   have vN := Eh (eC ((HR.out.2 x (List.mem_of_getElem? hx)).rd uY.out.drew) (HC.out.rd uY.out.drew))
   have xd := Eh (show (es.take (j + 1)).any (fun e => decide (e.o = o) && RC.same e.x.c c.c) = (decide (x.o = o) && RC.same x.x.c c.c) by rw [List.take_add_one, hx, List.any_append, vT.out]; simp)
   have Ap := Eh (show ∀ w2, Sat B D w2 (blk b2 c.cells.toArray tCl :: blk b1 #[.slice ta d.ts.length tc, .int .i64 d.room, .slice ha hs.length hcc, .slice wa ws.length wc, .slice (some ⟨g, og, none⟩) N rc] aQ :: l) → w2.cell? ⟨g, og + j * 19, none⟩ = some (.int .i64 x.o) from fun w2 s2 => by
    obtain ⟨g', og', hg', hrng'⟩ := aF dA (by have := HR.out.1.rd s2; rw [HN.out] at this; exact this) hx HN.out
    cases hg'
    exact (jY hrng').2.1)
   have yG := Eh (List.mem_of_getElem? hx)
   clear hx hrng hr1 y0
   cases hsm : RC.same x.x.c c.c
   ·rw [hsm] at vN
    have HF := Eh (show (es.take (j + 1)).any (fun e => decide (e.o = o) && RC.same e.x.c c.c) = false by rw [xd.out, hsm]; simp)
    clear hsm
    go_upto_region 4 with fail
    refine ag [(0, false, 7), (1, false, 7), (2, false, 7), (3, false, 7), (4, false, 7), (5, false, 7), (6, false, 7), (7, true, 0), (8, false, 999)] (by kernel_rfl) (by kernel_rfl) ?_
    iterate 7 (refine af rfl rfl (fun K hK => ?_); (first | ((refine aj _ _ rfl _ _ rfl _ vt.out ?_); go_simp) | ((refine aj _ _ rfl _ _ rfl _ vr.out ?_); go_simp) | go_simp); refine hK _ ?_; clear hK K)
    refine al rfl ?_
    refine aw rfl (fun K hK => ?_)
    go_simp
    refine vN.out.mono ?_
    rintro e4 w4 ⟨rfl, hk4⟩
    have vh := Eh (uY.out.drew.kept hk4)
    clear hk4 vN vt vr uY q0 q1 q2 q3 q4 qf
    refine hK _ _ ?_
    clear hK K
    refine wpList_nil ?_
    refine And.intro ?_ ?_
    ·go_simp
    refine af rfl rfl (fun K hK => ?_); (first | ((refine aj _ _ rfl _ _ rfl _ vt.out ?_); go_simp) | ((refine aj _ _ rfl _ _ rfl _ vr.out ?_); go_simp) | go_simp); refine hK _ ?_; clear hK K
    refine ar ?_
    obtain ⟨q0, q1, q2, q3, q4, qf⟩ := aT (vh.out.blk 1 rfl)
    have y0 := Ap.out w4 vh.out
    by_cases ho : x.o = o
    ·rw [ho] at y0
     go_wp2_with fail
     go_roundw
     case rel => exact ⟨j + 1, by go_num, by omega, HF.out, vh.out⟩
     case measure => simp [intOf]; omega
    ·have hne : (x.o == o) = false := by simpa using ho
     go_wp2_with fail
     go_roundw
     case rel => exact ⟨j + 1, by go_num, by omega, HF.out, vh.out⟩
     case measure => simp [intOf]; omega
   ·rw [hsm] at vN
    have wx := Eh hsm
    clear hsm
    go_upto_region 4 with fail
    refine ag [(0, false, 7), (1, false, 7), (2, false, 7), (3, false, 7), (4, false, 7), (5, false, 7), (6, false, 7), (7, true, 0), (8, false, 999)] (by kernel_rfl) (by kernel_rfl) ?_
    iterate 7 (refine af rfl rfl (fun K hK => ?_); (first | ((refine aj _ _ rfl _ _ rfl _ vt.out ?_); go_simp) | ((refine aj _ _ rfl _ _ rfl _ vr.out ?_); go_simp) | go_simp); refine hK _ ?_; clear hK K)
    refine al rfl ?_
    refine aw rfl (fun K hK => ?_)
    go_simp
    refine vN.out.mono ?_
    rintro e4 w4 ⟨rfl, hk4⟩
    have vh := Eh (uY.out.drew.kept hk4)
    clear hk4 vN vt vr uY q0 q1 q2 q3 q4 qf
    refine hK _ _ ?_
    clear hK K
    refine wpList_nil ?_
    refine And.intro ?_ ?_
    ·go_simp
    refine af rfl rfl (fun K hK => ?_); (first | ((refine aj _ _ rfl _ _ rfl _ vt.out ?_); go_simp) | ((refine aj _ _ rfl _ _ rfl _ vr.out ?_); go_simp) | go_simp); refine hK _ ?_; clear hK K
    refine ar ?_
    obtain ⟨q0, q1, q2, q3, q4, qf⟩ := aT (vh.out.blk 1 rfl)
    have y0 := Ap.out w4 vh.out
    by_cases ho : x.o = o
    ·have HT := Eh (show es.any (fun e => decide (e.o = o) && RC.same e.x.c c.c) = true from List.any_eq_true.2 ⟨x, yG.out, by rw [wx.out]; simp [ho]⟩)
     rw [ho] at y0
     go_wp2_with fail
     go_ret
     exact ⟨by rw [vA.out, HT.out]; rfl, vh.out.drop.drop⟩
    ·have hne : (x.o == o) = false := by simpa using ho
     have HF := Eh (show (es.take (j + 1)).any (fun e => decide (e.o = o) && RC.same e.x.c c.c) = false by rw [xd.out]; simp [ho])
     go_wp2_with fail
     go_roundw
     case rel => exact ⟨j + 1, by go_num, by omega, HF.out, vh.out⟩
     case measure => simp [intOf]; omega
  ·have hii : ¬ ((j : Int) < (N : Int)) := by omega
   have HF := Eh (show es.any (fun e => decide (e.o = o) && RC.same e.x.c c.c) = false by have := vT.out; rwa [List.take_of_length_le (by rw [HN.out]; omega)] at this)
   go_wp2_with fail
   go_ret
   exact ⟨by rw [vA.out, HF.out]; rfl, uY.out.drop.drop⟩
theorem Sat.set5e {B w : World} {D : PH} {l : List HP} {b : Nat} {t : TypeId} {y0 y1 y2 y3 y4 : Value} (hs : Sat B D w (Proofs.YtgljdkjepdknnaaGreatDoor.blk b #[y0, y1, y2, y3, y4] t :: l)) (u : Value) : Sat B D (w.setCell ⟨b, 4, none⟩ u) (Proofs.YtgljdkjepdknnaaGreatDoor.blk b #[y0, y1, y2, y3, u] t :: l) := hs.set 4 u
theorem qw {B w : World} {D : PH} {l : List HP} (h : Sat B D w l) (c1 c2 c3 : Array Value) (t1 t2 t3 : TypeId) : ∃ W, W = ((w.alloc (.cells c1 t1)).alloc (.cells c2 t2)).alloc (.cells c3 t3) ∧ Sat B D W (blk (w.heap.size + 1 + 1) c3 t3 :: blk (w.heap.size + 1) c2 t2 :: blk w.heap.size c1 t1 :: l) := by
 have h1 := ((h.alloc c1 t1).alloc c2 t2).alloc c3 t3
 simp only [World.size_alloc] at h1
 exact ⟨_, rfl, h1⟩
noncomputable def gZ (o : Int) (c : Clm) (e : ReaE) : Bool := decide (e.o ≠ o) || !RC.same e.x.c c
theorem j9 {B w : World} {D : PH} {l : List HP} {v : Value} {d : DocM} (o : Int) (c : ClmE) (hd : DocD D v d) (hc : ClOk D c) (hM : d.r.length ≤ 1000) (s : Sat B D w l) :
  Calls Tryz.prog 101 #[v, .int .i64 o, .agg c.cells.toArray] w (uQ B D l ⟨d.ts, d.room, d.q, bL d.r o c.c⟩) := by
 obtain ⟨i0, hi, hz0, hz1, hz2⟩ := info_parts i9
 have HI := Eh (And.intro hi (And.intro hz0 (And.intro hz1 hz2)))
 obtain ⟨ta, ha, wa, ra, tc, hcc, wc, rc, hs, ws, es, rfl, ht, hh, hw, hhq, hwq, hr, hrr, _⟩ := lC hd s
 have hel : es.length ≤ 1000 := by rw [← List.length_map (f := iM), hrr]; exact hM
 obtain ⟨N, hN⟩ : ∃ N, es.length = N := ⟨_, rfl⟩
 have HN := Eh hN
 rw [hN] at hr hel ⊢
 obtain ⟨W1, hW1, hs1⟩ := qw s #[.slice ta d.ts.length tc, .int .i64 d.room, .slice ha hs.length hcc, .slice wa ws.length wc, .slice ra N rc] c.cells.toArray cp aQ tCl aQ
 have uW := Eh hW1
 have uX := Eh (show Sat B D W1 (iJ (.slice none 0 0) [] :: _) from hs1.own_nil ct 19)
 have HR := Eh hr
 have Cg := Eh ht
 have Aq := Eh (And.intro hh (And.intro hw (And.intro hhq hwq)))
 have zd := Eh (show (es.filter (gZ o c.c)).map iM = bL d.r o c.c by unfold bL; rw [← hrr, List.filter_map]; rfl)
 have HC := Eh hc
 clear hd s hs1 hW1 hr hrr hc hN ht hh hw hhq hwq hi hz0 hz1 hz2
 go_enter Tryz.func101, Tryz.ntmps101
 go_upto_region 1 with fail
 rw [← uW.out]
 clear uW
 generalize w.heap.size + 1 + 1 = b3 at *
 generalize w.heap.size + 1 = b2 at *
 generalize w.heap.size = b1 at *
 go_wp2_with fail
 go_loopw [7, 8] (fun ot i wr => ∃ (j : Nat) (oa : Option Addr) (oc : Nat) (zs : List ReaE), i = .int .i64 j ∧ ot = .slice oa zs.length oc ∧ j ≤ N ∧ zs = (es.take j).filter (gZ o c.c) ∧ Sat B D wr (iJ (.slice oa zs.length oc) zs :: blk b3 cp aQ :: blk b2 c.cells.toArray tCl :: blk b1 #[.slice ta d.ts.length tc, .int .i64 d.room, .slice ha hs.length hcc, .slice wa ws.length wc, .slice ra N rc] aQ :: l)) (fun _ i _ => N - (intOf i).toNat)
 case atStart => exact ⟨0, none, 0, [], rfl, rfl, by omega, rfl, uX.out⟩
 case round =>
  obtain ⟨j, oa, oc, zs, rfl, rfl, hj, hzs, hs3⟩ := hrel
  have hle : zs.length ≤ j := by rw [hzs]; exact Nat.le_trans (List.length_filter_le _ _) (by rw [List.length_take]; omega)
  have wo := Eh hzs
  have uY := Eh hs3
  clear hzs hs3 uX
  obtain ⟨q0, q1, q2, q3, q4, qf⟩ := aT (uY.out.blk 3 rfl)
  by_cases hlt : j < N
  ·have hii : (j : Int) < (N : Int) := by omega
   obtain ⟨x, hx⟩ : ∃ x, es[j]? = some x := ⟨es[j]'(by rw [HN.out]; exact hlt), List.getElem?_eq_getElem _⟩
   obtain ⟨g, og, rfl, hrng⟩ := aF dA (by have := HR.out.1.rd uY.out.drew; rw [HN.out] at this; exact this) hx HN.out
   have vt := Eh (az (w := wr.drew) (jY hrng).1)
   have vr := Eh (az (w := wr.drew) (ak (uY.out.drew.blk 2 rfl)))
   have vN := Eh (eC ((HR.out.2 x (List.mem_of_getElem? hx)).rd uY.out.drew) (HC.out.rd uY.out.drew))
   have Ap := Eh (show ∀ w2 l2, Sat B D w2 l2 → w2.rangeAt g (og + j * 19) (aZ x) from fun w2 l2 s2 => by
    obtain ⟨g', og', hg', hrng'⟩ := aF dA (by have := HR.out.1.rd s2; rw [HN.out] at this; exact this) hx HN.out
    cases hg'
    exact hrng')
   have HX := Eh hx
   clear hx hrng
   cases hsm : RC.same x.x.c c.c
   ·rw [hsm] at vN
    have wx := Eh hsm
    clear hsm
    go_upto_region 5 with fail
    refine ag [(0, false, 7), (1, false, 7), (2, false, 7), (3, false, 7), (4, false, 7), (5, false, 7), (6, false, 7), (7, true, 0), (8, false, 999)] (by kernel_rfl) (by kernel_rfl) ?_
    iterate 7 (refine af rfl rfl (fun K hK => ?_); (first | ((refine aj _ _ rfl _ _ rfl _ vt.out ?_); go_simp) | ((refine aj _ _ rfl _ _ rfl _ vr.out ?_); go_simp) | go_simp); refine hK _ ?_; clear hK K)
    refine al rfl ?_
    refine aw rfl (fun K hK => ?_)
    go_simp
    refine vN.out.mono ?_
    rintro e4 w4 ⟨rfl, hk4⟩
    have vh := Eh (uY.out.drew.kept hk4)
    clear hk4 vN vt vr uY q0 q1 q2 q3 q4 qf
    refine hK _ _ ?_
    clear hK K
    refine wpList_nil ?_
    refine And.intro ?_ ?_
    ·go_simp
    refine af rfl rfl (fun K hK => ?_); (first | ((refine aj _ _ rfl _ _ rfl _ vt.out ?_); go_simp) | ((refine aj _ _ rfl _ _ rfl _ vr.out ?_); go_simp) | go_simp); refine hK _ ?_; clear hK K
    refine ar ?_
    obtain ⟨q0, q1, q2, q3, q4, qf⟩ := aT (vh.out.blk 3 rfl)
    have y0 := (jY (Ap.out w4 _ vh.out)).2.1
    by_cases ho : x.o = o
    ·rw [ho] at y0
     have hne : (o != o) = false := by simp
     have HT := Eh (aR (q := gZ o c.c) HX.out (by unfold gZ; rw [wx.out]; simp))
     have uZ := Eh ((vh.out.alloc (aZ x).toArray ct).front 1 rfl)
     have vk := Eh (aS (size := 19) (n := 1) (uZ.out.blk 1 rfl) (by simp [dA]) (by unfold maxLen; omega))
     have HL := Eh (j6 (Ap.out w4 _ vh.out))
     clear vh
     go_wp2_with (first | (refine ai rfl _ _ rfl _ _ rfl _ HL.out ?_) | (refine aD rfl _ _ rfl ct i0 _ (aZ x) rfl Tryz.underlying59 HI.out.1 HI.out.2.1 (HI.out.2.2.1.trans rfl) (by rw [dA]; decide) (by rw [dA]; decide) ?_) | (at_builtin; refine au _ rfl _ _ go rfl ct i0 _ 19 208 Tryz.underlying59 HI.out.1 HI.out.2.1 HI.out.2.2.1 HI.out.2.2.2 rfl _ zs.length _ rfl uZ.out _ 1 _ rfl vk.out (by simpa using ku x) (by unfold maxLen; omega) (by omega) ?_; intro v11 w11 hs11 h11; obtain ⟨va, vc, rfl⟩ := hs11.own_shape; have vl := Eh hs11; clear hs11 h11 uZ vk HL))
     go_roundw
     case rel =>
      refine ⟨j + 1, va, vc, zs ++ [x], by go_num, by rw [List.length_append]; rfl, by omega, by rw [HT.out, wo.out], ?_⟩
      show Sat B D w11 (aI ct 19 (.slice va (zs ++ [x]).length vc) (zs ++ [x]).length ((zs ++ [x]).flatMap aZ) :: _)
      rw [List.length_append, List.flatMap_append]
      have h9 := (vl.out.front 1 rfl).drop
      simpa using h9
     case measure => simp [intOf]; omega
    ·have hne : (x.o != o) = true := by simpa using ho
     have HT := Eh (aR (q := gZ o c.c) HX.out (by unfold gZ; simp [ho]))
     have uZ := Eh ((vh.out.alloc (aZ x).toArray ct).front 1 rfl)
     have vk := Eh (aS (size := 19) (n := 1) (uZ.out.blk 1 rfl) (by simp [dA]) (by unfold maxLen; omega))
     have HL := Eh (j6 (Ap.out w4 _ vh.out))
     clear vh
     go_wp2_with (first | (refine ai rfl _ _ rfl _ _ rfl _ HL.out ?_) | (refine aD rfl _ _ rfl ct i0 _ (aZ x) rfl Tryz.underlying59 HI.out.1 HI.out.2.1 (HI.out.2.2.1.trans rfl) (by rw [dA]; decide) (by rw [dA]; decide) ?_) | (at_builtin; refine au _ rfl _ _ go rfl ct i0 _ 19 208 Tryz.underlying59 HI.out.1 HI.out.2.1 HI.out.2.2.1 HI.out.2.2.2 rfl _ zs.length _ rfl uZ.out _ 1 _ rfl vk.out (by simpa using ku x) (by unfold maxLen; omega) (by omega) ?_; intro v11 w11 hs11 h11; obtain ⟨va, vc, rfl⟩ := hs11.own_shape; have vl := Eh hs11; clear hs11 h11 uZ vk HL))
     go_roundw
     case rel =>
      refine ⟨j + 1, va, vc, zs ++ [x], by go_num, by rw [List.length_append]; rfl, by omega, by rw [HT.out, wo.out], ?_⟩
      show Sat B D w11 (aI ct 19 (.slice va (zs ++ [x]).length vc) (zs ++ [x]).length ((zs ++ [x]).flatMap aZ) :: _)
      rw [List.length_append, List.flatMap_append]
      have h9 := (vl.out.front 1 rfl).drop
      simpa using h9
     case measure => simp [intOf]; omega
   ·rw [hsm] at vN
    have wx := Eh hsm
    clear hsm
    go_upto_region 5 with fail
    refine ag [(0, false, 7), (1, false, 7), (2, false, 7), (3, false, 7), (4, false, 7), (5, false, 7), (6, false, 7), (7, true, 0), (8, false, 999)] (by kernel_rfl) (by kernel_rfl) ?_
    iterate 7 (refine af rfl rfl (fun K hK => ?_); (first | ((refine aj _ _ rfl _ _ rfl _ vt.out ?_); go_simp) | ((refine aj _ _ rfl _ _ rfl _ vr.out ?_); go_simp) | go_simp); refine hK _ ?_; clear hK K)
    refine al rfl ?_
    refine aw rfl (fun K hK => ?_)
    go_simp
    refine vN.out.mono ?_
    rintro e4 w4 ⟨rfl, hk4⟩
    have vh := Eh (uY.out.drew.kept hk4)
    clear hk4 vN vt vr uY q0 q1 q2 q3 q4 qf
    refine hK _ _ ?_
    clear hK K
    refine wpList_nil ?_
    refine And.intro ?_ ?_
    ·go_simp
    refine af rfl rfl (fun K hK => ?_); (first | ((refine aj _ _ rfl _ _ rfl _ vt.out ?_); go_simp) | ((refine aj _ _ rfl _ _ rfl _ vr.out ?_); go_simp) | go_simp); refine hK _ ?_; clear hK K
    refine ar ?_
    obtain ⟨q0, q1, q2, q3, q4, qf⟩ := aT (vh.out.blk 3 rfl)
    have y0 := (jY (Ap.out w4 _ vh.out)).2.1
    by_cases ho : x.o = o
    ·rw [ho] at y0
     have hne : (o != o) = false := by simp
     have HT := Eh (aW (q := gZ o c.c) HX.out (by unfold gZ; rw [wx.out]; simp [ho]))
     clear Ap
     go_wp2_with fail
     go_roundw
     case rel => exact ⟨j + 1, oa, oc, zs, by go_num, rfl, by omega, by rw [HT.out]; exact wo.out, vh.out⟩
     case measure => simp [intOf]; omega
    ·have hne : (x.o != o) = true := by simpa using ho
     have HT := Eh (aR (q := gZ o c.c) HX.out (by unfold gZ; simp [ho]))
     have uZ := Eh ((vh.out.alloc (aZ x).toArray ct).front 1 rfl)
     have vk := Eh (aS (size := 19) (n := 1) (uZ.out.blk 1 rfl) (by simp [dA]) (by unfold maxLen; omega))
     have HL := Eh (j6 (Ap.out w4 _ vh.out))
     clear vh
     go_wp2_with (first | (refine ai rfl _ _ rfl _ _ rfl _ HL.out ?_) | (refine aD rfl _ _ rfl ct i0 _ (aZ x) rfl Tryz.underlying59 HI.out.1 HI.out.2.1 (HI.out.2.2.1.trans rfl) (by rw [dA]; decide) (by rw [dA]; decide) ?_) | (at_builtin; refine au _ rfl _ _ go rfl ct i0 _ 19 208 Tryz.underlying59 HI.out.1 HI.out.2.1 HI.out.2.2.1 HI.out.2.2.2 rfl _ zs.length _ rfl uZ.out _ 1 _ rfl vk.out (by simpa using ku x) (by unfold maxLen; omega) (by omega) ?_; intro v11 w11 hs11 h11; obtain ⟨va, vc, rfl⟩ := hs11.own_shape; have vl := Eh hs11; clear hs11 h11 uZ vk HL))
     go_roundw
     case rel =>
      refine ⟨j + 1, va, vc, zs ++ [x], by go_num, by rw [List.length_append]; rfl, by omega, by rw [HT.out, wo.out], ?_⟩
      show Sat B D w11 (aI ct 19 (.slice va (zs ++ [x]).length vc) (zs ++ [x]).length ((zs ++ [x]).flatMap aZ) :: _)
      rw [List.length_append, List.flatMap_append]
      have h9 := (vl.out.front 1 rfl).drop
      simpa using h9
     case measure => simp [intOf]; omega
  ·have hji : ¬ ((j : Int) < (N : Int)) := by omega
   have HT := Eh (show zs = es.filter (gZ o c.c) by rw [wo.out, List.take_of_length_le (by rw [HN.out]; omega)])
   have vh := Eh (Sat.set5e (uY.out.front 3 rfl) (.slice oa zs.length oc))
   go_upto_region 9 with fail
   obtain ⟨W8, hW8, hs8⟩ := Sat.hide vh.out
   rw [← hW8]
   clear hW8 vh uY q0 q1 q2 q3 q4 qf
   obtain ⟨D2, hle2, hE2, hs9⟩ := fo (hs8.front 1 rfl) (fun e he => by rw [wo.out] at he; exact HR.out.2 e (List.mem_of_mem_take (List.mem_filter.1 he).1))
   have vx := Eh (aG (hs9.blk 0 rfl))
   have vu := Eh (hs9.front 1 rfl)
   have vv := Eh hle2
   have xp := Eh hE2
   clear hs8 hs9 hE2 hle2
   go_wp2_with (first | (refine ai rfl _ _ rfl _ _ rfl [_, _, _, _, _] vx.out ?_) | (refine ap rfl _ _ _ rfl aQ b3 rfl [.slice ta d.ts.length tc, .int .i64 d.room, .slice ha hs.length hcc, .slice wa ws.length wc, .slice oa zs.length oc] rfl cp vu.out (by kernel_rfl) rfl (by intro u hu; simp at hu; rcases hu with rfl | rfl | rfl | rfl | rfl <;> rfl) ?_; intro w20 hs20; have vq := Eh hs20; clear hs20 vu))
   refine bodyPost_end (cO rfl _ _ rfl (aG (vq.out.blk 0 rfl))) rfl ?_
   refine ⟨_, D2, rfl, vv.out, ⟨_, _, _, _, zs, rfl, Cg.out.mono vv.out, ⟨_, _, hs, ws, rfl, Aq.out.1.mono vv.out, Aq.out.2.1.mono vv.out, Aq.out.2.2.1, Aq.out.2.2.2⟩, xp.out, by rw [HT.out]; exact zd.out⟩, vq.out.drop.drop.drop⟩
end Go.Proofs.YtgljdkjepdknnaaGreatDoor
