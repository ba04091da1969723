/- Joined texts: The document's locks (ratlineref11) in memory, by value; new ones; whether there is a reason. Reasons of the document without some (ratlineref11.Locks.without). (printed by genrk2.py) -/
import Derived.Test.YtgljdkjepdknnaaGreatDoorMT30
import Derived.Test.YtgljdkjepdknnaaGreatDoorMT18
import Derived.Test.YtgljdkjepdknnaaGreatDoorMT22
import Derived.Test.YtgljdkjepdknnaaGreatDoorMT21
set_option maxHeartbeats 64000000
namespace Go.Proofs.YtgljdkjepdknnaaGreatDoor
open Go.ChangeShapes Go.WideShapes Go.ChangeAt Go.RowKit
set_option maxRecDepth 100000
set_option linter.unusedSimpArgs false
abbrev bY : TypeId := 135
abbrev fy : TypeId := 59
abbrev aP : TypeId := 61
structure ReaE where
 o : Int
 x : ClmE
 dur : Int
 hand : Int
def aX (e : ReaE) : List Value := [.int .i64 e.o, .int .i64 e.x.kind, .int .i64 e.x.table, .int .i64 e.x.mode, .bool e.x.key.t, .int .i64 e.x.key.n, .string e.x.key.s, .slice e.x.ia e.x.il e.x.ic, .int .i64 e.x.pr.op, .int .i64 e.x.pr.col, .bool e.x.pr.v.t, .int .i64 e.x.pr.v.n, .string e.x.pr.v.s, .bool e.x.pr.w.t, .int .i64 e.x.pr.w.n, .string e.x.pr.w.s, .slice e.x.pr.la e.x.pr.ln e.x.pr.lc, .int .i64 e.dur, .int .i64 e.hand]
abbrev hJ (e : ReaE) : Rea := ⟨e.o, e.x.c, e.dur, e.hand⟩
theorem dg (e : ReaE) : (aX e).length = 19 := rfl
theorem ju (e : ReaE) : ∀ u ∈ aX e, u.oneCell' = true := by intro u hu; simp [aX] at hu; rcases hu with rfl | rfl | rfl | rfl | rfl | rfl | rfl | rfl | rfl | rfl | rfl | rfl | rfl | rfl | rfl | rfl | rfl | rfl | rfl <;> rfl
@[go_sem] theorem sizeE (e : ReaE) : (aX e).toArray.size = 19 := rfl
theorem jj {w : World} {g o : Nat} {e : ReaE} (h : w.rangeAt g o (aX e)) : (loadVar bY ⟨g, o, none⟩).run Tryz.prog w = .ok (.agg (aX e).toArray) w := run_loadVar_mid w g o _ _ _ h Tryz.underlying135 rfl (by kernel_rfl)
theorem i7 {w : World} {g o : Nat} {e : ReaE} (h : w.rangeAt g o (aX e)) : w.rangeAt g (o + 1) e.x.cells ∧ w.cell? ⟨g, o, none⟩ = some (.int .i64 e.o) ∧ w.cell? ⟨g, o + 17, none⟩ = some (.int .i64 e.dur) ∧ w.cell? ⟨g, o + 18, none⟩ = some (.int .i64 e.hand) := by
 refine ⟨fun j v hv => ?_, h 0 _ rfl, h 17 _ rfl, h 18 _ rfl⟩
 have hj : j < 16 := by have := (List.getElem?_eq_some_iff.1 hv).1; rwa [ClmE.len] at this
 have := h (j + 1) v (by
  rw [← hv]
  show (e.x.cells ++ [.int .i64 e.dur, .int .i64 e.hand])[j]? = _
  rw [List.getElem?_append_left (by rw [ClmE.len]; exact hj)])
 rw [show o + 1 + j = o + (j + 1) by omega]
 exact this
def ReasD (D : PH) (v : Value) (es : List ReaE) : Prop := RdP D 19 v es.length (es.flatMap aX) ∧ ∀ e ∈ es, ClOk D e.x
theorem ReasD.mono {D D' : PH} {v : Value} {es : List ReaE} (h : ReasD D v es) (le : PH.le D D') : ReasD D' v es := ⟨h.1.mono le, fun e he => (h.2 e he).mono le⟩
abbrev gS (v : Value) (es : List ReaE) : HP := aJ bY 19 v es.length (es.flatMap aX)
theorem eO {B w : World} {D : PH} {l : List HP} {v : Value} {es : List ReaE} (h : Sat B D w (gS v es :: l)) (hz : ∀ e ∈ es, ClOk D e.x) : ∃ D', PH.le D D' ∧ ReasD D' v es ∧ Sat B D' w l := by
 obtain ⟨D', hle, hrd, hs⟩ := h.own_give
 exact ⟨D', hle, ⟨hrd, fun e he => (hz e he).mono hle⟩, hs⟩
theorem iM (es : List ReaE) : ∀ u ∈ es.flatMap aX, u.oneCell' = true := fun u hu => by
 obtain ⟨e, _, hu⟩ := List.mem_flatMap.1 hu
 exact ju e u hu
theorem iC : (Tryz.prog.info? bY).map (fun i => (i.zero, i.size, i.bytes)) = some (some (.agg #[.int .i64 0, .int .i64 0, .int .i64 0, .int .i64 0, .bool false, .int .i64 0, .string ⟨#[]⟩, .slice none 0 0, .int .i64 0, .int .i64 0, .bool false, .int .i64 0, .string ⟨#[]⟩, .bool false, .int .i64 0, .string ⟨#[]⟩, .slice none 0 0, .int .i64 0, .int .i64 0]), 19, 208) := by kernel_rfl
structure DocM where
 ts : List (List Bool)
 room : Int
 q : Qm Clm
 r : List Rea
def DocD (D : PH) (v : Value) (d : DocM) : Prop := ∃ (tv hv wv rv : Value) (es : List ReaE), v = .agg #[tv, .int .i64 d.room, hv, wv, rv] ∧ TblsAt D tv d.ts ∧ QueD D (.agg #[hv, wv]) d.q ∧ ReasD D rv es ∧ es.map hJ = d.r
theorem DocD.mono {D D' : PH} {v : Value} {d : DocM} (h : DocD D v d) (le : PH.le D D') : DocD D' v d := by
 obtain ⟨tv, hv, wv, rv, es, a, b, c, e, f⟩ := h
 exact ⟨tv, hv, wv, rv, es, a, b.mono le, c.mono le, e.mono le, f⟩
def si (B : World) (D : PH) (l : List HP) (d : DocM) (r : Ending) (w' : World) : Prop := ∃ (v : Value) (D' : PH), r = .returned v ∧ PH.le D D' ∧ DocD D' v d ∧ Sat B D' w' l
theorem aZ {w : World} {b : Nat} {y0 y1 y2 y3 y4 : Value} {t : TypeId} (h : w.heap[b]? = some (.cells #[y0, y1, y2, y3, y4] t (0, 0))) : w.cell? ⟨b, 0, none⟩ = some y0 ∧ w.cell? ⟨b, 1, none⟩ = some y1 ∧ w.cell? ⟨b, 2, none⟩ = some y2 ∧ w.cell? ⟨b, 3, none⟩ = some y3 ∧ w.cell? ⟨b, 4, none⟩ = some y4 ∧ (∀ j, w.frozen? ⟨b, j, none⟩ = false) := by
 refine ⟨?_, ?_, ?_, ?_, ?_, fun j => ?_⟩ <;> simp [World.cell?, World.frozen?, h]
theorem aF {w : World} {b : Nat} {y0 y1 y2 y3 y4 : Value} {t : TypeId} {fr : Nat × Nat} (h : w.heap[b]? = some (.cells #[y0, y1, y2, y3, y4] t fr)) : (loadVar aP ⟨b, 0, none⟩).run Tryz.prog w = .ok (.agg #[y0, y1, y2, y3, y4]) w :=
 run_loadVar_mid w b 0 _ _ _ (ai (cs := [y0, y1, y2, y3, y4]) h) Tryz.underlying61 rfl (by kernel_rfl)
abbrev cd : Array Value := #[.slice none 0 0, .int .i64 0, .slice none 0 0, .slice none 0 0, .slice none 0 0]
theorem rNew_ok {B w : World} {D : PH} {l : List HP} {tv : Value} {ts : List (List Bool)} (room : Int) (ht : TblsAt D tv ts) (h : Sat B D w l) :
  Calls Tryz.prog 22 #[tv, .int .i64 room] w (si B D l ⟨ts, min (max room 0) 200, ⟨[], []⟩, []⟩) := by
 obtain ⟨rm, hrm⟩ : ∃ rm, rm = min (max room 0) 200 := ⟨_, rfl⟩
 have zp := BO hrm
 rw [← hrm]
 have HS := BO h
 have HT := BO ht
 obtain ⟨us, _, _, hrd, _⟩ := id ht
 obtain ⟨ta, tc, rfl⟩ := hrd.shape
 have h3 : (room < 0 ∧ rm = 0) ∨ (¬ room < 0 ∧ 200 < room ∧ rm = 200) ∨ (¬ room < 0 ∧ ¬ 200 < room ∧ rm = room) := by rw [hrm]; omega
 clear h ht hrm hrd zp
 rcases h3 with ⟨h1, rfl⟩ | ⟨h1, h2, rfl⟩ | ⟨h1, h2, rfl⟩
 all_goals
  go_enter Tryz.func22, Tryz.ntmps22
  go_wp2_with fail
  refine bodyPost_ret (cC rfl _ _ rfl (aF (aB _ _))) rfl ?_
  exact ⟨_, D, rfl, PH.le.refl _, ⟨_, _, _, _, [], rfl, HT.out, ⟨_, _, [], [], rfl, ⟨RdP.nil D 18, fun e he => by cases he⟩, ⟨RdP.nil D 18, fun e he => (by cases he)⟩, rfl, rfl⟩, ⟨RdP.nil D 19, fun e he => by cases he⟩, rfl⟩, (HS.out.alloc _ _).drop⟩
theorem kE {B w : World} {D : PH} {l : List HP} {v : Value} {d : DocM} (hd : DocD D v d) (s : Sat B D w l) : ∃ (ta ha wa ra : Option Addr) (tc hc wc rc : Nat) (hs ws : List EntE) (es : List ReaE), v = .agg #[.slice ta d.ts.length tc, .int .i64 d.room, .slice ha hs.length hc, .slice wa ws.length wc, .slice ra es.length rc] ∧ TblsAt D (.slice ta d.ts.length tc) d.ts ∧ EntsD D (.slice ha hs.length hc) hs ∧ EntsD D (.slice wa ws.length wc) ws ∧ hs.map aG = d.q.held ∧ ws.map aG = d.q.waits ∧ ReasD D (.slice ra es.length rc) es ∧ es.map hJ = d.r ∧
  Sat B D (w.alloc (.cells #[.slice ta d.ts.length tc, .int .i64 d.room, .slice ha hs.length hc, .slice wa ws.length wc, .slice ra es.length rc] aP)) (blk w.heap.size #[.slice ta d.ts.length tc, .int .i64 d.room, .slice ha hs.length hc, .slice wa ws.length wc, .slice ra es.length rc] aP :: l) := by
 obtain ⟨tv, hv, wv, rv, es, rfl, ht, ⟨hv', wv', hs, ws, hq, hh, hw, hhq, hwq⟩, hr, hrr⟩ := hd
 obtain ⟨rfl, rfl⟩ : hv = hv' ∧ wv = wv' := by simpa using hq
 obtain ⟨us, _, _, hrd, _⟩ := id ht
 obtain ⟨ta, tc, rfl⟩ := hrd.shape
 obtain ⟨ha, hc, rfl⟩ := hh.1.shape
 obtain ⟨wa, wc, rfl⟩ := hw.1.shape
 obtain ⟨ra, rc, rfl⟩ := hr.1.shape
 exact ⟨ta, ha, wa, ra, tc, hc, wc, rc, hs, ws, es, rfl, ht, hh, hw, hhq, hwq, hr, hrr, s.alloc _ _⟩
theorem oJ {B w : World} {D : PH} {l : List HP} {v : Value} {d : DocM} (o : Int) (c : ClmE) (hd : DocD D v d) (hc : ClOk D c) (s : Sat B D w l) :
  Calls Tryz.prog 142 #[v, .int .i64 o, .agg c.cells.toArray] w fun r w' => r = .returned (.bool (cI d.r o c.c)) ∧ Sat B D w' l := by
 obtain ⟨ta, ha, wa, ra, tc, hcc, wc, rc, hs, ws, es, rfl, _, _, _, _, _, hr, hrr, hs1⟩ := kE hd s
 obtain ⟨W1, hW1, hs2⟩ := Sat.hide (hs1.alloc c.cells.toArray tCl)
 rw [World.size_alloc] at hs2
 have sR := BO hW1
 have sS := BO hs2
 have HR := BO hr
 have wL := BO (show cI d.r o c.c = es.any (fun e => decide (e.o = o) && RC.same e.x.c c.c) by unfold cI; rw [← hrr, List.any_map]; rfl)
 have HC := BO hc
 obtain ⟨N, hN⟩ : ∃ N, es.length = N := ⟨_, rfl⟩
 have HN := BO hN
 have hml := hr.1.2.1
 unfold maxLen at hml
 rw [wL.out]
 rw [hN] at HR sR sS hml ⊢
 obtain ⟨rr, hrr2⟩ : ∃ rr, rr = es.any (fun e => decide (e.o = o) && RC.same e.x.c c.c) := ⟨_, rfl⟩
 rw [← hrr2]
 have tl := BO hrr2
 clear hd s hs1 hs2 hW1 hr hrr hc hN wL hrr2
 go_enter Tryz.func142, Tryz.ntmps142
 go_upto_region 1 with fail
 rw [← sR.out]
 clear sR
 generalize w.heap.size + 1 = b2 at *
 generalize w.heap.size = b1 at *
 go_wp2_with fail
 go_loopw [7] (fun i wr => ∃ j : Nat, i = .int .i64 j ∧ j ≤ N ∧ (es.take j).any (fun e => decide (e.o = o) && RC.same e.x.c c.c) = false ∧ Sat B D wr (blk b2 c.cells.toArray tCl :: blk b1 #[.slice ta d.ts.length tc, .int .i64 d.room, .slice ha hs.length hcc, .slice wa ws.length wc, .slice ra N rc] aP :: l)) (fun i _ => N - (intOf i).toNat)
 case atStart => exact ⟨0, rfl, by omega, rfl, sS.out⟩
 case round =>
  obtain ⟨j, rfl, hj, hno, hs3⟩ := hrel
  have tK := BO hno
  have sU := BO hs3
  clear hno hs3 sS
  obtain ⟨q0, q1, q2, q3, q4, qf⟩ := aZ (sU.out.blk 1 rfl)
  by_cases hlt : j < N
  ·have hii : (j : Int) < (N : Int) := by omega
   obtain ⟨x, hx⟩ : ∃ x, es[j]? = some x := ⟨es[j]'(by rw [HN.out]; exact hlt), List.getElem?_eq_getElem _⟩
   obtain ⟨g, og, rfl, hrng⟩ := aD dg (by have := HR.out.1.rd sU.out.drew; rw [HN.out] at this; exact this) hx HN.out
   obtain ⟨hr1, y0, _, _⟩ := i7 hrng
   have th := BO (ay (w := wr.drew) hr1)
   have tg := BO (ay (w := wr.drew) (ai (sU.out.drew.blk 0 rfl)))
   have tD := BO (el ((HR.out.2 x (List.mem_of_getElem? hx)).rd sU.out.drew) (HC.out.rd sU.out.drew))
   have uH := BO (show (es.take (j + 1)).any (fun e => decide (e.o = o) && RC.same e.x.c c.c) = (decide (x.o = o) && RC.same x.x.c c.c) by rw [List.take_add_one, hx, List.any_append, tK.out]; simp)
   have xU := BO (show ∀ w2, Sat B D w2 (blk b2 c.cells.toArray tCl :: blk b1 #[.slice ta d.ts.length tc, .int .i64 d.room, .slice ha hs.length hcc, .slice wa ws.length wc, .slice (some ⟨g, og, none⟩) N rc] aP :: l) → w2.cell? ⟨g, og + j * 19, none⟩ = some (.int .i64 x.o) from fun w2 s2 => by
    obtain ⟨g', og', hg', hrng'⟩ := aD dg (by have := HR.out.1.rd s2; rw [HN.out] at this; exact this) hx HN.out
    cases hg'
    exact (i7 hrng').2.1)
   have we := BO (List.mem_of_getElem? hx)
   clear hx hrng hr1 y0
   cases hsm : RC.same x.x.c c.c
   ·rw [hsm] at tD
    have HF := BO (show (es.take (j + 1)).any (fun e => decide (e.o = o) && RC.same e.x.c c.c) = false by rw [uH.out, hsm]; simp)
    clear hsm
    go_upto_region 4 with fail
    refine af [(0, false, 7), (1, false, 7), (2, false, 7), (3, false, 7), (4, false, 7), (5, false, 7), (6, false, 7), (7, true, 0), (8, false, 999)] (by kernel_rfl) (by kernel_rfl) ?_
    iterate 7 (refine ae rfl rfl (fun K hK => ?_); (first | ((refine aj _ _ rfl _ _ rfl _ th.out ?_); go_simp) | ((refine aj _ _ rfl _ _ rfl _ tg.out ?_); go_simp) | go_simp); refine hK _ ?_; clear hK K)
    refine al rfl ?_
    refine aw rfl (fun K hK => ?_)
    go_simp
    refine tD.out.mono ?_
    rintro e4 w4 ⟨rfl, hk4⟩
    have sY := BO (sU.out.drew.kept hk4)
    clear hk4 tD th tg sU q0 q1 q2 q3 q4 qf
    refine hK _ _ ?_
    clear hK K
    refine wpList_nil ?_
    refine And.intro ?_ ?_
    ·go_simp
    refine ae rfl rfl (fun K hK => ?_); (first | ((refine aj _ _ rfl _ _ rfl _ th.out ?_); go_simp) | ((refine aj _ _ rfl _ _ rfl _ tg.out ?_); go_simp) | go_simp); refine hK _ ?_; clear hK K
    refine ap ?_
    obtain ⟨q0, q1, q2, q3, q4, qf⟩ := aZ (sY.out.blk 1 rfl)
    have y0 := xU.out w4 sY.out
    by_cases ho : x.o = o
    ·rw [ho] at y0
     go_wp2_with fail
     go_roundw
     case rel => exact ⟨j + 1, by go_num, by omega, HF.out, sY.out⟩
     case measure => simp [intOf]; omega
    ·have hne : (x.o == o) = false := by simpa using ho
     go_wp2_with fail
     go_roundw
     case rel => exact ⟨j + 1, by go_num, by omega, HF.out, sY.out⟩
     case measure => simp [intOf]; omega
   ·rw [hsm] at tD
    have t8 := BO hsm
    clear hsm
    go_upto_region 4 with fail
    refine af [(0, false, 7), (1, false, 7), (2, false, 7), (3, false, 7), (4, false, 7), (5, false, 7), (6, false, 7), (7, true, 0), (8, false, 999)] (by kernel_rfl) (by kernel_rfl) ?_
    iterate 7 (refine ae rfl rfl (fun K hK => ?_); (first | ((refine aj _ _ rfl _ _ rfl _ th.out ?_); go_simp) | ((refine aj _ _ rfl _ _ rfl _ tg.out ?_); go_simp) | go_simp); refine hK _ ?_; clear hK K)
    refine al rfl ?_
    refine aw rfl (fun K hK => ?_)
    go_simp
    refine tD.out.mono ?_
    rintro e4 w4 ⟨rfl, hk4⟩
    have sY := BO (sU.out.drew.kept hk4)
    clear hk4 tD th tg sU q0 q1 q2 q3 q4 qf
    refine hK _ _ ?_
    clear hK K
    refine wpList_nil ?_
    refine And.intro ?_ ?_
    ·go_simp
    refine ae rfl rfl (fun K hK => ?_); (first | ((refine aj _ _ rfl _ _ rfl _ th.out ?_); go_simp) | ((refine aj _ _ rfl _ _ rfl _ tg.out ?_); go_simp) | go_simp); refine hK _ ?_; clear hK K
    refine ap ?_
    obtain ⟨q0, q1, q2, q3, q4, qf⟩ := aZ (sY.out.blk 1 rfl)
    have y0 := xU.out w4 sY.out
    by_cases ho : x.o = o
    ·have HT := BO (show es.any (fun e => decide (e.o = o) && RC.same e.x.c c.c) = true from List.any_eq_true.2 ⟨x, we.out, by rw [t8.out]; simp [ho]⟩)
     rw [ho] at y0
     go_wp2_with fail
     go_ret
     exact ⟨by rw [tl.out, HT.out]; rfl, sY.out.drop.drop⟩
    ·have hne : (x.o == o) = false := by simpa using ho
     have HF := BO (show (es.take (j + 1)).any (fun e => decide (e.o = o) && RC.same e.x.c c.c) = false by rw [uH.out]; simp [ho])
     go_wp2_with fail
     go_roundw
     case rel => exact ⟨j + 1, by go_num, by omega, HF.out, sY.out⟩
     case measure => simp [intOf]; omega
  ·have hii : ¬ ((j : Int) < (N : Int)) := by omega
   have HF := BO (show es.any (fun e => decide (e.o = o) && RC.same e.x.c c.c) = false by have := tK.out; rwa [List.take_of_length_le (by rw [HN.out]; omega)] at this)
   go_wp2_with fail
   go_ret
   exact ⟨by rw [tl.out, HF.out]; rfl, sU.out.drop.drop⟩
theorem Sat.set5e {B w : World} {D : PH} {l : List HP} {b : Nat} {t : TypeId} {y0 y1 y2 y3 y4 : Value} (hs : Sat B D w (Proofs.YtgljdkjepdknnaaGreatDoor.blk b #[y0, y1, y2, y3, y4] t :: l)) (u : Value) : Sat B D (w.setCell ⟨b, 4, none⟩ u) (Proofs.YtgljdkjepdknnaaGreatDoor.blk b #[y0, y1, y2, y3, u] t :: l) := hs.set 4 u
theorem nI {B w : World} {D : PH} {l : List HP} (h : Sat B D w l) (c1 c2 c3 : Array Value) (t1 t2 t3 : TypeId) : ∃ W, W = ((w.alloc (.cells c1 t1)).alloc (.cells c2 t2)).alloc (.cells c3 t3) ∧ Sat B D W (blk (w.heap.size + 1 + 1) c3 t3 :: blk (w.heap.size + 1) c2 t2 :: blk w.heap.size c1 t1 :: l) := by
 have h1 := ((h.alloc c1 t1).alloc c2 t2).alloc c3 t3
 simp only [World.size_alloc] at h1
 exact ⟨_, rfl, h1⟩
noncomputable def gr (o : Int) (c : Clm) (e : ReaE) : Bool := decide (e.o ≠ o) || !RC.same e.x.c c
theorem jn {B w : World} {D : PH} {l : List HP} {v : Value} {d : DocM} (o : Int) (c : ClmE) (hd : DocD D v d) (hc : ClOk D c) (hM : d.r.length ≤ 1000) (s : Sat B D w l) :
  Calls Tryz.prog 101 #[v, .int .i64 o, .agg c.cells.toArray] w (si B D l ⟨d.ts, d.room, d.q, bw d.r o c.c⟩) := by
 obtain ⟨i0, hi, hz0, hz1, hz2⟩ := info_parts iC
 have HI := BO (And.intro hi (And.intro hz0 (And.intro hz1 hz2)))
 obtain ⟨ta, ha, wa, ra, tc, hcc, wc, rc, hs, ws, es, rfl, ht, hh, hw, hhq, hwq, hr, hrr, _⟩ := kE hd s
 have hel : es.length ≤ 1000 := by rw [← List.length_map (f := hJ), hrr]; exact hM
 obtain ⟨N, hN⟩ : ∃ N, es.length = N := ⟨_, rfl⟩
 have HN := BO hN
 rw [hN] at hr hel ⊢
 obtain ⟨W1, hW1, hs1⟩ := nI s #[.slice ta d.ts.length tc, .int .i64 d.room, .slice ha hs.length hcc, .slice wa ws.length wc, .slice ra N rc] c.cells.toArray cd aP tCl aP
 have sR := BO hW1
 have sS := BO (show Sat B D W1 (gS (.slice none 0 0) [] :: _) from hs1.own_nil bY 19)
 have HR := BO hr
 have zX := BO ht
 have xV := BO (And.intro hh (And.intro hw (And.intro hhq hwq)))
 have wE := BO (show (es.filter (gr o c.c)).map hJ = bw d.r o c.c by unfold bw; rw [← hrr, List.filter_map]; rfl)
 have HC := BO hc
 clear hd s hs1 hW1 hr hrr hc hN ht hh hw hhq hwq hi hz0 hz1 hz2
 go_enter Tryz.func101, Tryz.ntmps101
 go_upto_region 1 with fail
 rw [← sR.out]
 clear sR
 generalize w.heap.size + 1 + 1 = b3 at *
 generalize w.heap.size + 1 = b2 at *
 generalize w.heap.size = b1 at *
 go_wp2_with fail
 go_loopw [7, 8] (fun ot i wr => ∃ (j : Nat) (oa : Option Addr) (oc : Nat) (zs : List ReaE), i = .int .i64 j ∧ ot = .slice oa zs.length oc ∧ j ≤ N ∧ zs = (es.take j).filter (gr o c.c) ∧ Sat B D wr (gS (.slice oa zs.length oc) zs :: blk b3 cd aP :: blk b2 c.cells.toArray tCl :: blk b1 #[.slice ta d.ts.length tc, .int .i64 d.room, .slice ha hs.length hcc, .slice wa ws.length wc, .slice ra N rc] aP :: l)) (fun _ i _ => N - (intOf i).toNat)
 case atStart => exact ⟨0, none, 0, [], rfl, rfl, by omega, rfl, sS.out⟩
 case round =>
  obtain ⟨j, oa, oc, zs, rfl, rfl, hj, hzs, hs3⟩ := hrel
  have hle : zs.length ≤ j := by rw [hzs]; exact Nat.le_trans (List.length_filter_le _ _) (by rw [List.length_take]; omega)
  have tY := BO hzs
  have sU := BO hs3
  clear hzs hs3 sS
  obtain ⟨q0, q1, q2, q3, q4, qf⟩ := aZ (sU.out.blk 3 rfl)
  by_cases hlt : j < N
  ·have hii : (j : Int) < (N : Int) := by omega
   obtain ⟨x, hx⟩ : ∃ x, es[j]? = some x := ⟨es[j]'(by rw [HN.out]; exact hlt), List.getElem?_eq_getElem _⟩
   obtain ⟨g, og, rfl, hrng⟩ := aD dg (by have := HR.out.1.rd sU.out.drew; rw [HN.out] at this; exact this) hx HN.out
   have th := BO (ay (w := wr.drew) (i7 hrng).1)
   have tg := BO (ay (w := wr.drew) (ai (sU.out.drew.blk 2 rfl)))
   have tD := BO (el ((HR.out.2 x (List.mem_of_getElem? hx)).rd sU.out.drew) (HC.out.rd sU.out.drew))
   have xU := BO (show ∀ w2 l2, Sat B D w2 l2 → w2.rangeAt g (og + j * 19) (aX x) from fun w2 l2 s2 => by
    obtain ⟨g', og', hg', hrng'⟩ := aD dg (by have := HR.out.1.rd s2; rw [HN.out] at this; exact this) hx HN.out
    cases hg'
    exact hrng')
   have HX := BO hx
   clear hx hrng
   cases hsm : RC.same x.x.c c.c
   ·rw [hsm] at tD
    have t8 := BO hsm
    clear hsm
    go_upto_region 5 with fail
    refine af [(0, false, 7), (1, false, 7), (2, false, 7), (3, false, 7), (4, false, 7), (5, false, 7), (6, false, 7), (7, true, 0), (8, false, 999)] (by kernel_rfl) (by kernel_rfl) ?_
    iterate 7 (refine ae rfl rfl (fun K hK => ?_); (first | ((refine aj _ _ rfl _ _ rfl _ th.out ?_); go_simp) | ((refine aj _ _ rfl _ _ rfl _ tg.out ?_); go_simp) | go_simp); refine hK _ ?_; clear hK K)
    refine al rfl ?_
    refine aw rfl (fun K hK => ?_)
    go_simp
    refine tD.out.mono ?_
    rintro e4 w4 ⟨rfl, hk4⟩
    have sY := BO (sU.out.drew.kept hk4)
    clear hk4 tD th tg sU q0 q1 q2 q3 q4 qf
    refine hK _ _ ?_
    clear hK K
    refine wpList_nil ?_
    refine And.intro ?_ ?_
    ·go_simp
    refine ae rfl rfl (fun K hK => ?_); (first | ((refine aj _ _ rfl _ _ rfl _ th.out ?_); go_simp) | ((refine aj _ _ rfl _ _ rfl _ tg.out ?_); go_simp) | go_simp); refine hK _ ?_; clear hK K
    refine ap ?_
    obtain ⟨q0, q1, q2, q3, q4, qf⟩ := aZ (sY.out.blk 3 rfl)
    have y0 := (i7 (xU.out w4 _ sY.out)).2.1
    by_cases ho : x.o = o
    ·rw [ho] at y0
     have hne : (o != o) = false := by simp
     have HT := BO (aO (q := gr o c.c) HX.out (by unfold gr; rw [t8.out]; simp))
     have sV := BO ((sY.out.alloc (aX x).toArray bY).front 1 rfl)
     have s5 := BO (aT (size := 19) (n := 1) (sV.out.blk 1 rfl) (by simp [dg]) (by unfold maxLen; omega))
     have HL := BO (jj (xU.out w4 _ sY.out))
     clear sY
     go_wp2_with (first | (refine ag rfl _ _ rfl _ _ rfl _ HL.out ?_) | (refine aC rfl _ _ rfl bY i0 _ (aX x) rfl Tryz.underlying59 HI.out.1 HI.out.2.1 (HI.out.2.2.1.trans rfl) (by rw [dg]; decide) (by rw [dg]; decide) ?_) | (at_builtin; refine ar _ rfl _ _ fy rfl bY i0 _ 19 208 Tryz.underlying59 HI.out.1 HI.out.2.1 HI.out.2.2.1 HI.out.2.2.2 rfl _ zs.length _ rfl sV.out _ 1 _ rfl s5.out (by simpa using ju x) (by unfold maxLen; omega) (by omega) ?_; intro v11 w11 hs11 h11; obtain ⟨va, vc, rfl⟩ := hs11.own_shape; have s6 := BO hs11; clear hs11 h11 sV s5 HL))
     go_roundw
     case rel =>
      refine ⟨j + 1, va, vc, zs ++ [x], by go_num, by rw [List.length_append]; rfl, by omega, by rw [HT.out, tY.out], ?_⟩
      show Sat B D w11 (aJ bY 19 (.slice va (zs ++ [x]).length vc) (zs ++ [x]).length ((zs ++ [x]).flatMap aX) :: _)
      rw [List.length_append, List.flatMap_append]
      have h9 := (s6.out.front 1 rfl).drop
      simpa using h9
     case measure => simp [intOf]; omega
    ·have hne : (x.o != o) = true := by simpa using ho
     have HT := BO (aO (q := gr o c.c) HX.out (by unfold gr; simp [ho]))
     have sV := BO ((sY.out.alloc (aX x).toArray bY).front 1 rfl)
     have s5 := BO (aT (size := 19) (n := 1) (sV.out.blk 1 rfl) (by simp [dg]) (by unfold maxLen; omega))
     have HL := BO (jj (xU.out w4 _ sY.out))
     clear sY
     go_wp2_with (first | (refine ag rfl _ _ rfl _ _ rfl _ HL.out ?_) | (refine aC rfl _ _ rfl bY i0 _ (aX x) rfl Tryz.underlying59 HI.out.1 HI.out.2.1 (HI.out.2.2.1.trans rfl) (by rw [dg]; decide) (by rw [dg]; decide) ?_) | (at_builtin; refine ar _ rfl _ _ fy rfl bY i0 _ 19 208 Tryz.underlying59 HI.out.1 HI.out.2.1 HI.out.2.2.1 HI.out.2.2.2 rfl _ zs.length _ rfl sV.out _ 1 _ rfl s5.out (by simpa using ju x) (by unfold maxLen; omega) (by omega) ?_; intro v11 w11 hs11 h11; obtain ⟨va, vc, rfl⟩ := hs11.own_shape; have s6 := BO hs11; clear hs11 h11 sV s5 HL))
     go_roundw
     case rel =>
      refine ⟨j + 1, va, vc, zs ++ [x], by go_num, by rw [List.length_append]; rfl, by omega, by rw [HT.out, tY.out], ?_⟩
      show Sat B D w11 (aJ bY 19 (.slice va (zs ++ [x]).length vc) (zs ++ [x]).length ((zs ++ [x]).flatMap aX) :: _)
      rw [List.length_append, List.flatMap_append]
      have h9 := (s6.out.front 1 rfl).drop
      simpa using h9
     case measure => simp [intOf]; omega
   ·rw [hsm] at tD
    have t8 := BO hsm
    clear hsm
    go_upto_region 5 with fail
    refine af [(0, false, 7), (1, false, 7), (2, false, 7), (3, false, 7), (4, false, 7), (5, false, 7), (6, false, 7), (7, true, 0), (8, false, 999)] (by kernel_rfl) (by kernel_rfl) ?_
    iterate 7 (refine ae rfl rfl (fun K hK => ?_); (first | ((refine aj _ _ rfl _ _ rfl _ th.out ?_); go_simp) | ((refine aj _ _ rfl _ _ rfl _ tg.out ?_); go_simp) | go_simp); refine hK _ ?_; clear hK K)
    refine al rfl ?_
    refine aw rfl (fun K hK => ?_)
    go_simp
    refine tD.out.mono ?_
    rintro e4 w4 ⟨rfl, hk4⟩
    have sY := BO (sU.out.drew.kept hk4)
    clear hk4 tD th tg sU q0 q1 q2 q3 q4 qf
    refine hK _ _ ?_
    clear hK K
    refine wpList_nil ?_
    refine And.intro ?_ ?_
    ·go_simp
    refine ae rfl rfl (fun K hK => ?_); (first | ((refine aj _ _ rfl _ _ rfl _ th.out ?_); go_simp) | ((refine aj _ _ rfl _ _ rfl _ tg.out ?_); go_simp) | go_simp); refine hK _ ?_; clear hK K
    refine ap ?_
    obtain ⟨q0, q1, q2, q3, q4, qf⟩ := aZ (sY.out.blk 3 rfl)
    have y0 := (i7 (xU.out w4 _ sY.out)).2.1
    by_cases ho : x.o = o
    ·rw [ho] at y0
     have hne : (o != o) = false := by simp
     have HT := BO (aQ (q := gr o c.c) HX.out (by unfold gr; rw [t8.out]; simp [ho]))
     clear xU
     go_wp2_with fail
     go_roundw
     case rel => exact ⟨j + 1, oa, oc, zs, by go_num, rfl, by omega, by rw [HT.out]; exact tY.out, sY.out⟩
     case measure => simp [intOf]; omega
    ·have hne : (x.o != o) = true := by simpa using ho
     have HT := BO (aO (q := gr o c.c) HX.out (by unfold gr; simp [ho]))
     have sV := BO ((sY.out.alloc (aX x).toArray bY).front 1 rfl)
     have s5 := BO (aT (size := 19) (n := 1) (sV.out.blk 1 rfl) (by simp [dg]) (by unfold maxLen; omega))
     have HL := BO (jj (xU.out w4 _ sY.out))
     clear sY
     go_wp2_with (first | (refine ag rfl _ _ rfl _ _ rfl _ HL.out ?_) | (refine aC rfl _ _ rfl bY i0 _ (aX x) rfl Tryz.underlying59 HI.out.1 HI.out.2.1 (HI.out.2.2.1.trans rfl) (by rw [dg]; decide) (by rw [dg]; decide) ?_) | (at_builtin; refine ar _ rfl _ _ fy rfl bY i0 _ 19 208 Tryz.underlying59 HI.out.1 HI.out.2.1 HI.out.2.2.1 HI.out.2.2.2 rfl _ zs.length _ rfl sV.out _ 1 _ rfl s5.out (by simpa using ju x) (by unfold maxLen; omega) (by omega) ?_; intro v11 w11 hs11 h11; obtain ⟨va, vc, rfl⟩ := hs11.own_shape; have s6 := BO hs11; clear hs11 h11 sV s5 HL))
     go_roundw
     case rel =>
      refine ⟨j + 1, va, vc, zs ++ [x], by go_num, by rw [List.length_append]; rfl, by omega, by rw [HT.out, tY.out], ?_⟩
      show Sat B D w11 (aJ bY 19 (.slice va (zs ++ [x]).length vc) (zs ++ [x]).length ((zs ++ [x]).flatMap aX) :: _)
      rw [List.length_append, List.flatMap_append]
      have h9 := (s6.out.front 1 rfl).drop
      simpa using h9
     case measure => simp [intOf]; omega
  ·have hji : ¬ ((j : Int) < (N : Int)) := by omega
   have HT := BO (show zs = es.filter (gr o c.c) by rw [tY.out, List.take_of_length_le (by rw [HN.out]; omega)])
   have sY := BO (Sat.set5e (sU.out.front 3 rfl) (.slice oa zs.length oc))
   go_upto_region 9 with fail
   obtain ⟨W8, hW8, hs8⟩ := Sat.hide sY.out
   rw [← hW8]
   clear hW8 sY sU q0 q1 q2 q3 q4 qf
   obtain ⟨D2, hle2, hE2, hs9⟩ := eO (hs8.front 1 rfl) (fun e he => by rw [tY.out] at he; exact HR.out.2 e (List.mem_of_mem_take (List.mem_filter.1 he).1))
   have tm := BO (aF (hs9.blk 0 rfl))
   have ti := BO (hs9.front 1 rfl)
   have tr := BO hle2
   have vk := BO hE2
   clear hs8 hs9 hE2 hle2
   go_wp2_with (first | (refine ag rfl _ _ rfl _ _ rfl [_, _, _, _, _] tm.out ?_) | (refine aq rfl _ _ _ rfl aP b3 rfl [.slice ta d.ts.length tc, .int .i64 d.room, .slice ha hs.length hcc, .slice wa ws.length wc, .slice oa zs.length oc] rfl cd ti.out (by kernel_rfl) rfl (by intro u hu; simp at hu; rcases hu with rfl | rfl | rfl | rfl | rfl <;> rfl) ?_; intro w20 hs20; have te := BO hs20; clear hs20 ti))
   refine bodyPost_end (cC rfl _ _ rfl (aF (te.out.blk 0 rfl))) rfl ?_
   refine ⟨_, D2, rfl, tr.out, ⟨_, _, _, _, zs, rfl, zX.out.mono tr.out, ⟨_, _, hs, ws, rfl, xV.out.1.mono tr.out, xV.out.2.1.mono tr.out, xV.out.2.2.1, xV.out.2.2.2⟩, vk.out, by rw [HT.out]; exact wE.out⟩, te.out.drop.drop.drop⟩
end Go.Proofs.YtgljdkjepdknnaaGreatDoor
