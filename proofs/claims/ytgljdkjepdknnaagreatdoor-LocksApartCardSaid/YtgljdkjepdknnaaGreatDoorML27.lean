/- Asking for a claim (locks.Ask). (printed by genlkask.py) -/
import Derived.Test.YtgljdkjepdknnaaGreatDoorML23
import Derived.Test.YtgljdkjepdknnaaGreatDoorML25
import Derived.Test.YtgljdkjepdknnaaGreatDoorML26
set_option maxHeartbeats 64000000
namespace Go.Proofs.YtgljdkjepdknnaaGreatDoor
open Go.ChangeShapes Go.WideShapes Go.ChangeAt Go.RowKit
set_option maxRecDepth 100000
set_option linter.unusedSimpArgs false
def AskedL (B : World) (D : PH) (l : List HP) (L : Nat) (ts : List (List Bool)) (room : Int) (R : LkM × Bool × Int) (r : Ending) (w' : World) : Prop := ∃ D', r = .returned (.tuple #[.bool R.2.1, .int .i64 R.2.2]) ∧ PH.le D D' ∧ Sat B D' w' (cd D' L ts room R.1 :: l)
theorem qX {m : LkM} {room : Int} {ok : Bool} {o : Int} {c : Clm} {dur hand : Int} (h : ok = false ∨ cu dur hand = 0) : cW m room ok o c dur hand = (m, false, 111) := by
 unfold cW; rw [if_pos (by rcases h with h | h <;> simp [h])]
theorem qJ {m : LkM} {room : Int} {o : Int} {c : Clm} {dur hand : Int} (h : cu dur hand ≠ 0) (hw : (aP m.q o).2 = true) : cW m room true o c dur hand = (m, false, 110) := by
 unfold cW; rw [if_neg (by simp [h]), if_pos hw]
theorem sR {m : LkM} {room : Int} {o : Int} {c : Clm} {dur hand : Int} (h : cu dur hand ≠ 0) (hw : (aP m.q o).2 = false) (hh : fN m o c = false) (hr : room ≤ ((m.q.held.length + m.q.waits.length : Nat) : Int)) : cW m room true o c dur hand = (m, false, 62) := by
 unfold cW; rw [if_neg (by simp [h]), if_neg (by simp [hw]), if_pos (by rw [hh, decide_eq_true hr]; rfl)]
theorem qU {m : LkM} {room : Int} {o : Int} {c : Clm} {dur hand : Int} (h : cu dur hand ≠ 0) (hw : (aP m.q o).2 = false) (hh : fN m o c = true ∨ ¬ room ≤ ((m.q.held.length + m.q.waits.length : Nat) : Int)) : cW m room true o c dur hand = (⟨(bj RC m.q o c true).1, di m.why o c (cu dur hand)⟩, (bj RC m.q o c true).2, 0) := by
 unfold cW; rw [if_neg (by simp [h]), if_neg (by simp [hw]), if_neg (by rcases hh with hh | hh <;> first | (rw [decide_eq_false hh]; simp) | simp [hh])]
theorem nV {B w : World} {D : PH} {l : List HP} {L : Nat} {ts : List (List Bool)} {room : Int} {m : LkM} (o : Int) (c : ClmE) (dur hand : Int) (hD : EnvD D) (hc : ClOk D c) (hsm : ClmSm 1000000 c.c) (hnd : c.pr.p.nodes.length ≤ 1000000) (hqs : ∀ e ∈ m.q.held, ClmSm 1000000 e.c) (hh : m.q.held.length ≤ 100000) (hww : m.q.waits.length ≤ 1000) (hwy : m.why.length ≤ 100000) (h : Sat B D w (cd D L ts room m :: l)) :
  Calls Tryz.prog 14 #[.pointer (some ⟨L, 0, none⟩), .int .i64 o, .agg c.cells.toArray, .int .i64 dur, .int .i64 hand] w (AskedL B D l L ts room (cW m room (bH ts c.c) o c.c dur hand)) := by
 obtain ⟨W1, hW1, hs1⟩ := Sat.hide (h.alloc c.cells.toArray tCl)
 have uW := Eh hW1
 obtain ⟨q, tv, rv, rs, ht, hr, h1⟩ := ch hs1.swap
 have HT := Eh ht
 have HR := Eh hr
 have HD := Eh hD
 have HC := Eh hc
 have wx := Eh hsm
 have zZ := Eh hqs
 have uX := Eh h1
 have ww := Eh (chk_C ht c hc hnd h1.drew)
 have HL := Eh (az (w := W1.drew) (ak (h1.drew.blk 3 rfl)))
 obtain ⟨c0, c1, c2, c3, _⟩ := bF (h1.blk 0 rfl)
 clear h hW1 hs1 ht hr h1 hD hc hsm hnd hqs
 cases hmay : bH ts c.c
 ·rw [hmay] at ww
  have HO := Eh (qX (m := m) (room := room) (ok := false) (o := o) (c := c.c) (dur := dur) (hand := hand) (.inl rfl))
  clear hmay
  go_enter Tryz.func14, Tryz.ntmps14
  go_upto_region 1 with fail
  rw [← uW.out]
  clear uW
  generalize w.heap.size = bx at *
  refine ag [(0, false, 8), (1, false, 8), (2, false, 8), (3, false, 8), (4, false, 8), (5, false, 8), (6, false, 8), (7, false, 8), (8, true, 0), (9, false, 14), (10, false, 14), (11, false, 14), (12, false, 14), (13, false, 14), (14, true, 0), (15, false, 999), (16, false, 999)] (by kernel_rfl) (by kernel_rfl) ?_
  iterate 3 (refine af rfl rfl (fun K hK => ?_); (first | ((refine aj _ _ rfl _ _ rfl _ HL.out ?_); go_simp) | go_simp); refine hK _ ?_; clear hK K)
  iterate 5 (first | (refine aq rfl rfl ?_; simp only [Act.put, Ei, Ej, Ek, El, Em, En]) | (refine am rfl rfl (fun K hK => ?_); (first | ((refine aj _ _ rfl _ _ rfl _ HL.out ?_); go_simp) | go_simp); refine hK _ ?_; clear hK K))
  refine al rfl ?_
  refine aw rfl (fun K hK => ?_)
  go_simp
  refine ww.out.mono ?_
  rintro e1 w1 ⟨rfl, hs2⟩
  have vg := Eh hs2
  clear hs2 ww uX HL c0 c1 c2 c3
  refine hK _ _ ?_
  clear hK K
  refine wpList_nil ?_
  refine And.intro ?_ ?_
  ·go_simp
  first | (refine aq rfl rfl ?_; simp only [Act.put, Ei, Ej, Ek, El, Em, En]) | (refine am rfl rfl (fun K hK => ?_); (first | ((refine aj _ _ rfl _ _ rfl _ HL.out ?_); go_simp) | go_simp); refine hK _ ?_; clear hK K)
  iterate 2 (refine af rfl rfl (fun K hK => ?_); (first | ((refine aj _ _ rfl _ _ rfl _ HL.out ?_); go_simp) | go_simp); refine hK _ ?_; clear hK K)
  iterate 2 (first | (refine aq rfl rfl ?_; simp only [Act.put, Ei, Ej, Ek, El, Em, En]) | (refine am rfl rfl (fun K hK => ?_); (first | ((refine aj _ _ rfl _ _ rfl _ HL.out ?_); go_simp) | go_simp); refine hK _ ?_; clear hK K))
  refine al rfl ?_
  refine bO rfl ?_
  simp only [Act.put, Ei, Ej, Ek]
  refine wpList_nil ?_
  refine And.intro ?_ ?_
  ·go_simp
  first | (refine aq rfl rfl ?_; simp only [Act.put, Ei, Ej, Ek, El, Em, En]) | (refine am rfl rfl (fun K hK => ?_); (first | ((refine aj _ _ rfl _ _ rfl _ HL.out ?_); go_simp) | go_simp); refine hK _ ?_; clear hK K)
  refine af rfl rfl (fun K hK => ?_); (first | ((refine aj _ _ rfl _ _ rfl _ HL.out ?_); go_simp) | go_simp); refine hK _ ?_; clear hK K
  refine ar ?_
  go_wp2_with fail
  go_ret2
  rw [HO.out]
  exact ⟨D, rfl, PH.le.refl _, bQ HT.out HR.out (vg.out.front 3 rfl).drop⟩
 rw [hmay] at ww
 clear hmay
 by_cases hb : cu dur hand = 0
 ·have HO := Eh (qX (m := m) (room := room) (ok := true) (o := o) (c := c.c) (dur := dur) (hand := hand) (.inr hb))
  have HB := Eh hb
  clear hb
  go_enter Tryz.func14, Tryz.ntmps14
  go_upto_region 1 with fail
  rw [← uW.out]
  clear uW
  generalize w.heap.size = bx at *
  refine ag [(0, false, 8), (1, false, 8), (2, false, 8), (3, false, 8), (4, false, 8), (5, false, 8), (6, false, 8), (7, false, 8), (8, true, 0), (9, false, 14), (10, false, 14), (11, false, 14), (12, false, 14), (13, false, 14), (14, true, 0), (15, false, 999), (16, false, 999)] (by kernel_rfl) (by kernel_rfl) ?_
  iterate 3 (refine af rfl rfl (fun K hK => ?_); (first | ((refine aj _ _ rfl _ _ rfl _ HL.out ?_); go_simp) | go_simp); refine hK _ ?_; clear hK K)
  iterate 5 (first | (refine aq rfl rfl ?_; simp only [Act.put, Ei, Ej, Ek, El, Em, En]) | (refine am rfl rfl (fun K hK => ?_); (first | ((refine aj _ _ rfl _ _ rfl _ HL.out ?_); go_simp) | go_simp); refine hK _ ?_; clear hK K))
  refine al rfl ?_
  refine aw rfl (fun K hK => ?_)
  go_simp
  refine ww.out.mono ?_
  rintro e1 w1 ⟨rfl, hs2⟩
  have vg := Eh hs2
  clear hs2 ww uX HL c0 c1 c2 c3
  refine hK _ _ ?_
  clear hK K
  refine wpList_nil ?_
  refine And.intro ?_ ?_
  ·go_simp
  first | (refine aq rfl rfl ?_; simp only [Act.put, Ei, Ej, Ek, El, Em, En]) | (refine am rfl rfl (fun K hK => ?_); (first | ((refine aj _ _ rfl _ _ rfl _ HL.out ?_); go_simp) | go_simp); refine hK _ ?_; clear hK K)
  iterate 2 (refine af rfl rfl (fun K hK => ?_); (first | ((refine aj _ _ rfl _ _ rfl _ HL.out ?_); go_simp) | go_simp); refine hK _ ?_; clear hK K)
  iterate 2 (first | (refine aq rfl rfl ?_; simp only [Act.put, Ei, Ej, Ek, El, Em, En]) | (refine am rfl rfl (fun K hK => ?_); (first | ((refine aj _ _ rfl _ _ rfl _ HL.out ?_); go_simp) | go_simp); refine hK _ ?_; clear hK K))
  refine al rfl ?_
  refine aw rfl (fun K hK => ?_)
  go_simp
  refine (i5 dur hand).mono ?_
  rintro e2 w2 ⟨rfl, rfl⟩
  rw [HB.out]
  refine hK _ _ ?_
  clear hK K
  refine wpList_nil ?_
  refine And.intro ?_ ?_
  ·go_simp
  first | (refine aq rfl rfl ?_; simp only [Act.put, Ei, Ej, Ek, El, Em, En]) | (refine am rfl rfl (fun K hK => ?_); (first | ((refine aj _ _ rfl _ _ rfl _ HL.out ?_); go_simp) | go_simp); refine hK _ ?_; clear hK K)
  refine af rfl rfl (fun K hK => ?_); (first | ((refine aj _ _ rfl _ _ rfl _ HL.out ?_); go_simp) | go_simp); refine hK _ ?_; clear hK K
  refine ar ?_
  go_wp2_with fail
  go_ret2
  rw [HO.out]
  exact ⟨D, rfl, PH.le.refl _, bQ HT.out HR.out (vg.out.front 3 rfl).drop⟩
 have hb1 : (cu dur hand == 0) = false := by simpa using hb
 have HB := Eh hb
 have vj := Eh hb1
 obtain ⟨bb, hbb⟩ : ∃ bb, cu dur hand = bb := ⟨_, rfl⟩
 have AL := Eh hbb
 rw [hbb] at hb hb1
 clear hbb hb
 go_enter Tryz.func14, Tryz.ntmps14
 go_upto_region 1 with fail
 rw [← uW.out]
 clear uW
 generalize w.heap.size = bx at *
 refine ag [(0, false, 8), (1, false, 8), (2, false, 8), (3, false, 8), (4, false, 8), (5, false, 8), (6, false, 8), (7, false, 8), (8, true, 0), (9, false, 14), (10, false, 14), (11, false, 14), (12, false, 14), (13, false, 14), (14, true, 0), (15, false, 999), (16, false, 999)] (by kernel_rfl) (by kernel_rfl) ?_
 iterate 3 (refine af rfl rfl (fun K hK => ?_); (first | ((refine aj _ _ rfl _ _ rfl _ HL.out ?_); go_simp) | go_simp); refine hK _ ?_; clear hK K)
 iterate 5 (first | (refine aq rfl rfl ?_; simp only [Act.put, Ei, Ej, Ek, El, Em, En]) | (refine am rfl rfl (fun K hK => ?_); (first | ((refine aj _ _ rfl _ _ rfl _ HL.out ?_); go_simp) | go_simp); refine hK _ ?_; clear hK K))
 refine al rfl ?_
 refine aw rfl (fun K hK => ?_)
 go_simp
 refine ww.out.mono ?_
 rintro e1 w1 ⟨rfl, hs2⟩
 have vg := Eh hs2
 clear hs2 ww uX HL c0 c1 c2 c3
 refine hK _ _ ?_
 clear hK K
 refine wpList_nil ?_
 refine And.intro ?_ ?_
 ·go_simp
 first | (refine aq rfl rfl ?_; simp only [Act.put, Ei, Ej, Ek, El, Em, En]) | (refine am rfl rfl (fun K hK => ?_); (first | ((refine aj _ _ rfl _ _ rfl _ HL.out ?_); go_simp) | go_simp); refine hK _ ?_; clear hK K)
 iterate 2 (refine af rfl rfl (fun K hK => ?_); (first | ((refine aj _ _ rfl _ _ rfl _ HL.out ?_); go_simp) | go_simp); refine hK _ ?_; clear hK K)
 iterate 2 (first | (refine aq rfl rfl ?_; simp only [Act.put, Ei, Ej, Ek, El, Em, En]) | (refine am rfl rfl (fun K hK => ?_); (first | ((refine aj _ _ rfl _ _ rfl _ HL.out ?_); go_simp) | go_simp); refine hK _ ?_; clear hK K))
 refine al rfl ?_
 refine aw rfl (fun K hK => ?_)
 go_simp
 refine (i5 dur hand).mono ?_
 rintro e2 w2 ⟨rfl, rfl⟩
 rw [AL.out]
 refine hK _ _ ?_
 clear hK K
 refine wpList_nil ?_
 refine And.intro ?_ ?_
 ·go_simp
 first | (refine aq rfl rfl ?_; simp only [Act.put, Ei, Ej, Ek, El, Em, En]) | (refine am rfl rfl (fun K hK => ?_); (first | ((refine aj _ _ rfl _ _ rfl _ HL.out ?_); go_simp) | go_simp); refine hK _ ?_; clear hK K)
 refine af rfl rfl (fun K hK => ?_); (first | ((refine aj _ _ rfl _ _ rfl _ HL.out ?_); go_simp) | go_simp); refine hK _ ?_; clear hK K
 refine ar ?_
 go_upto_region 3 with fail
 clear hb1
 obtain ⟨c0, c1, c2, c3, _⟩ := bF (vg.out.blk 0 rfl)
 have xg := Eh (m8 o vg.out.swap)
 go_upto_region 4 with (first | (go_at_call 42; refine xg.out.mono ?_; rintro e3 w3 ⟨z, rfl, hzc, hzok, hs3⟩; have uY := Eh (hs3.alloc z.cells.toArray tCl); clear hzc hzok hs3 xg vg c0 c1 c2 c3) | (refine ax rfl _ _ _ rfl z.cells _ _ rfl rfl (by kernel_rfl) rfl (ClmE.one z) ?_))
 obtain ⟨W4, hW4, hs4⟩ := Sat.hide uY.out
 rw [← hW4]
 clear hW4 uY
 generalize w3.heap.size = bz at hs4 ⊢
 have vh := Eh (bQ HT.out HR.out (((hs4.front 3 rfl).front 2 rfl).front 3 rfl))
 clear hs4
 cases hwt : (aP m.q o).2
 rotate_left
 ·have HO := Eh (qJ (room := room) (c := c.c) HB.out hwt)
  clear hwt
  go_wp2_with fail
  go_ret2
  rw [HO.out]
  exact ⟨D, rfl, PH.le.refl _, vh.out.rm2.swap.drop⟩
 have xg := Eh hwt
 clear hwt
 have wR := Eh (has_W o c hh HC.out vh.out.drew)
 have vt := Eh (az (w := W4.drew) (ak (vh.out.drew.blk 2 rfl)))
 go_upto_region 6 with fail
 cases hhas : fN m o c.c
 ·rw [hhas] at wR
  obtain ⟨lnv, hlnv⟩ : ∃ lnv, lnv = m.q.held.length + m.q.waits.length := ⟨_, rfl⟩
  have vK := Eh hlnv
  by_cases hroom : room ≤ (lnv : Int)
  ·have HO := Eh (sR (c := c.c) HB.out xg.out hhas (by rw [← hlnv]; exact hroom))
   have hroom' : (lnv : Int) ≥ room := hroom
   clear hhas hroom hlnv
   refine ag [(0, false, 3), (1, false, 3), (2, false, 3), (3, true, 0), (4, false, 10), (5, false, 10), (6, false, 10), (7, false, 10), (8, false, 10), (9, false, 10), (11, false, 999), (12, false, 999), (13, false, 999), (14, false, 999), (10, true, 0), (15, false, 999), (16, false, 999)] (by kernel_rfl) (by kernel_rfl) ?_
   iterate 3 (refine af rfl rfl (fun K hK => ?_); (first | ((refine aj _ _ rfl _ _ rfl _ vt.out ?_); go_simp) | go_simp); refine hK _ ?_; clear hK K)
   refine al rfl ?_
   refine aw rfl (fun K hK => ?_)
   go_simp
   refine wR.out.mono ?_
   rintro e5 w5 ⟨rfl, hs5⟩
   obtain ⟨q6, tv6, rv6, rs6, ht6, hr6, h6⟩ := ch hs5
   obtain ⟨c0, c1, c2, c3, _⟩ := bF (h6.blk 0 rfl)
   have wi := Eh (uV (by omega) h6.swap)
   have uZ := Eh h6.swap
   have z8 := Eh ht6
   have zm := Eh hr6
   clear hs5 ht6 hr6 h6 wR vh vt
   rw [← vK.out] at wi
   refine hK _ _ ?_
   clear hK K
   refine wpList_nil ?_
   refine And.intro ?_ ?_
   ·go_simp
   iterate 2 (refine af rfl rfl (fun K hK => ?_); (first | ((refine aj _ _ rfl _ _ rfl _ vt.out ?_); go_simp) | go_simp); refine hK _ ?_; clear hK K)
   iterate 8 (first | (refine aq rfl rfl ?_; simp only [Act.put, Ei, Ej, Ek, El, Em, En]) | (refine am rfl rfl (fun K hK => ?_); (first | ((refine aj _ _ rfl _ _ rfl _ vt.out ?_); go_simp) | go_simp); refine hK _ ?_; clear hK K))
   refine al rfl ?_
   refine aw rfl (fun K hK => ?_)
   go_simp
   refine wi.out.mono ?_
   rintro e6 w6 ⟨rfl, hk6⟩
   have vi := Eh (uZ.out.kept hk6)
   clear hk6 wi uZ c0 c1 c2 c3
   obtain ⟨c0, c1, c2, c3, _⟩ := bF (vi.out.blk 1 rfl)
   refine hK _ _ ?_
   clear hK K
   refine wpList_nil ?_
   refine And.intro ?_ ?_
   ·go_simp
   first | (refine aq rfl rfl ?_; simp only [Act.put, Ei, Ej, Ek, El, Em, En]) | (refine am rfl rfl (fun K hK => ?_); (first | ((refine aj _ _ rfl _ _ rfl _ vt.out ?_); go_simp) | go_simp); refine hK _ ?_; clear hK K)
   refine af rfl rfl (fun K hK => ?_); (first | ((refine aj _ _ rfl _ _ rfl _ vt.out ?_); go_simp) | go_simp); refine hK _ ?_; clear hK K
   refine ar ?_
   go_wp2_with fail
   go_ret2
   rw [HO.out]
   exact ⟨D, rfl, PH.le.refl _, (bQ z8.out zm.out vi.out.swap).rm2.swap.drop⟩
  ·have HO := Eh (qU (c := c.c) HB.out xg.out (.inr (by rw [← hlnv]; exact hroom)))
   have hroom' : ¬ (lnv : Int) ≥ room := hroom
   clear hhas hroom hlnv
   refine ag [(0, false, 3), (1, false, 3), (2, false, 3), (3, true, 0), (4, false, 10), (5, false, 10), (6, false, 10), (7, false, 10), (8, false, 10), (9, false, 10), (11, false, 999), (12, false, 999), (13, false, 999), (14, false, 999), (10, true, 0), (15, false, 999), (16, false, 999)] (by kernel_rfl) (by kernel_rfl) ?_
   iterate 3 (refine af rfl rfl (fun K hK => ?_); (first | ((refine aj _ _ rfl _ _ rfl _ vt.out ?_); go_simp) | go_simp); refine hK _ ?_; clear hK K)
   refine al rfl ?_
   refine aw rfl (fun K hK => ?_)
   go_simp
   refine wR.out.mono ?_
   rintro e5 w5 ⟨rfl, hs5⟩
   obtain ⟨q6, tv6, rv6, rs6, ht6, hr6, h6⟩ := ch hs5
   obtain ⟨c0, c1, c2, c3, _⟩ := bF (h6.blk 0 rfl)
   have wi := Eh (uV (by omega) h6.swap)
   have uZ := Eh h6.swap
   have z8 := Eh ht6
   have zm := Eh hr6
   clear hs5 ht6 hr6 h6 wR vh vt
   rw [← vK.out] at wi
   refine hK _ _ ?_
   clear hK K
   refine wpList_nil ?_
   refine And.intro ?_ ?_
   ·go_simp
   iterate 2 (refine af rfl rfl (fun K hK => ?_); (first | ((refine aj _ _ rfl _ _ rfl _ vt.out ?_); go_simp) | go_simp); refine hK _ ?_; clear hK K)
   iterate 8 (first | (refine aq rfl rfl ?_; simp only [Act.put, Ei, Ej, Ek, El, Em, En]) | (refine am rfl rfl (fun K hK => ?_); (first | ((refine aj _ _ rfl _ _ rfl _ vt.out ?_); go_simp) | go_simp); refine hK _ ?_; clear hK K))
   refine al rfl ?_
   refine aw rfl (fun K hK => ?_)
   go_simp
   refine wi.out.mono ?_
   rintro e6 w6 ⟨rfl, hk6⟩
   have vi := Eh (uZ.out.kept hk6)
   clear hk6 wi uZ c0 c1 c2 c3
   obtain ⟨c0, c1, c2, c3, _⟩ := bF (vi.out.blk 1 rfl)
   refine hK _ _ ?_
   clear hK K
   refine wpList_nil ?_
   refine And.intro ?_ ?_
   ·go_simp
   first | (refine aq rfl rfl ?_; simp only [Act.put, Ei, Ej, Ek, El, Em, En]) | (refine am rfl rfl (fun K hK => ?_); (first | ((refine aj _ _ rfl _ _ rfl _ vt.out ?_); go_simp) | go_simp); refine hK _ ?_; clear hK K)
   refine af rfl rfl (fun K hK => ?_); (first | ((refine aj _ _ rfl _ _ rfl _ vt.out ?_); go_simp) | go_simp); refine hK _ ?_; clear hK K
   refine ar ?_
   have vw := Eh (bQ z8.out zm.out vi.out.swap)
   clear vi z8 zm
   clear hroom'
   go_upto_region 8 with fail
   have vt := Eh (az (ak (vw.out.blk 2 rfl)))
   have wA := Eh (kG (x := c) HC.out wx.out vw.out)
   go_upto_region 9 with (first | (refine ai rfl _ _ rfl _ _ rfl _ vt.out ?_) | (go_at_call 45; refine wA.out.mono ?_; rintro e7 w7 ⟨y, D7, rfl, hyc, hle7, hyok, hs7⟩; have Ag := Eh hyc; have vB := Eh hle7; have zI := Eh hyok; have vn := Eh (hs7.front 2 rfl); clear hyc hle7 hyok hs7 wA vt vw) | (refine ap rfl _ _ _ rfl tCl bx rfl y.cells rfl c.cells.toArray vn.out (by kernel_rfl) rfl (ClmE.one y) ?_; intro w8 hs8; have vw := Eh hs8; clear hs8 vn))
   obtain ⟨q9, tv9, rv9, rs9, ht9, hr9, h9⟩ := ch (bK vw.out.swap vB.out)
   obtain ⟨c0, c1, c2, c3, _⟩ := bF (h9.blk 0 rfl)
   have vH := Eh (az (w := w8.drew) (ak (h9.drew.blk 3 rfl)))
   have vy := Eh (Ask_C o y (HD.out.mono vB.out) zI.out (by rw [Ag.out]; exact wx.out) zZ.out hh hww h9.drew.swap)
   rw [Ag.out] at vy
   have Ah := Eh ht9
   have Ai := Eh hr9
   clear ht9 hr9 h9 vw
   refine ag [(0, false, 6), (1, false, 6), (2, false, 6), (3, false, 6), (4, false, 6), (5, false, 6), (6, true, 0), (7, false, 999)] (by kernel_rfl) (by kernel_rfl) ?_
   iterate 6 (refine af rfl rfl (fun K hK => ?_); (first | ((refine aj _ _ rfl _ _ rfl _ vH.out ?_); go_simp) | go_simp); refine hK _ ?_; clear hK K)
   refine al rfl ?_
   refine aw rfl (fun K hK => ?_)
   go_simp
   refine vy.out.mono ?_
   rintro e10 w10 ⟨D10, rfl, hle10, hs10⟩
   have wI := Eh hle10
   have vo := Eh (bQ (m := ⟨(bj RC m.q o c.c true).1, m.why⟩) (Ah.out.mono hle10) (Ai.out.mono hle10) hs10.swap)
   clear hle10 hs10 vy vH Ah Ai c0 c1 c2 c3
   refine hK _ _ ?_
   clear hK K
   refine wpList_nil ?_
   refine And.intro ?_ ?_
   ·go_simp
   refine af rfl rfl (fun K hK => ?_); (first | ((refine aj _ _ rfl _ _ rfl _ vH.out ?_); go_simp) | go_simp); refine hK _ ?_; clear hK K
   refine ar ?_
   have vX := Eh (az (w := w10.drew) (ak (vo.out.drew.blk 1 rfl)))
   have Aj := Eh (pT (m := ⟨(bj RC m.q o c.c true).1, m.why⟩) o y (cu dur hand) hwy (zI.out.mono wI.out) vo.out.drew)
   go_upto_region 10 with fail
   refine ag [(0, false, 6), (1, false, 6), (2, false, 6), (3, false, 5), (4, false, 5), (5, true, 0), (6, true, 0)] (by kernel_rfl) (by kernel_rfl) ?_
   iterate 5 (refine af rfl rfl (fun K hK => ?_); (first | ((refine aj _ _ rfl _ _ rfl _ vX.out ?_); go_simp) | go_simp); refine hK _ ?_; clear hK K)
   refine al rfl ?_
   refine aw rfl (fun K hK => ?_)
   go_simp
   refine (i5 dur hand).mono ?_
   rintro e11 w11 ⟨rfl, rfl⟩
   refine hK _ _ ?_
   clear hK K
   refine wpList_nil ?_
   refine And.intro ?_ ?_
   ·(refine bC ?_ (bC ?_ (bC ?_ (bC ?_ (bC ?_ (by unfold dF; trivial))))) <;> first | exact ip _ _ rfl _ _ rfl _ vX.out rfl | go_simp)
   refine al rfl ?_
   refine aw rfl (fun K hK => ?_)
   go_simp
   refine Aj.out.mono ?_
   rintro e12 w12 ⟨rfl, hs12⟩
   have vY := Eh hs12
   clear hs12 Aj vX vo
   refine hK _ _ ?_
   clear hK K
   refine wpList_nil ?_
   refine And.intro ?_ ?_
   ·go_simp
   refine ar ?_
   go_wp2_with fail
   go_ret2
   rw [HO.out]
   have h12 := vY.out.rm2.swap.drop
   rw [Ag.out] at h12
   exact ⟨D10, rfl, vB.out.trans wI.out, h12⟩
 ·rw [hhas] at wR
  have HO := Eh (qU (room := room) (c := c.c) HB.out xg.out (.inl hhas))
  clear hhas
  refine ag [(0, false, 3), (1, false, 3), (2, false, 3), (3, true, 0), (4, false, 10), (5, false, 10), (6, false, 10), (7, false, 10), (8, false, 10), (9, false, 10), (11, false, 999), (12, false, 999), (13, false, 999), (14, false, 999), (10, true, 0), (15, false, 999), (16, false, 999)] (by kernel_rfl) (by kernel_rfl) ?_
  iterate 3 (refine af rfl rfl (fun K hK => ?_); (first | ((refine aj _ _ rfl _ _ rfl _ vt.out ?_); go_simp) | go_simp); refine hK _ ?_; clear hK K)
  refine al rfl ?_
  refine aw rfl (fun K hK => ?_)
  go_simp
  refine wR.out.mono ?_
  rintro e5 w5 ⟨rfl, hs5⟩
  have vw := Eh hs5
  clear hs5 wR vh vt
  refine hK _ _ ?_
  clear hK K
  refine wpList_nil ?_
  refine And.intro ?_ ?_
  ·go_simp
  iterate 2 (refine af rfl rfl (fun K hK => ?_); (first | ((refine aj _ _ rfl _ _ rfl _ vt.out ?_); go_simp) | go_simp); refine hK _ ?_; clear hK K)
  iterate 8 (first | (refine aq rfl rfl ?_; simp only [Act.put, Ei, Ej, Ek, El, Em, En]) | (refine am rfl rfl (fun K hK => ?_); (first | ((refine aj _ _ rfl _ _ rfl _ vt.out ?_); go_simp) | go_simp); refine hK _ ?_; clear hK K))
  refine al rfl ?_
  refine bO rfl ?_
  simp only [Act.put, Ei, Ej, Ek]
  refine wpList_nil ?_
  refine And.intro ?_ ?_
  ·go_simp
  first | (refine aq rfl rfl ?_; simp only [Act.put, Ei, Ej, Ek, El, Em, En]) | (refine am rfl rfl (fun K hK => ?_); (first | ((refine aj _ _ rfl _ _ rfl _ vt.out ?_); go_simp) | go_simp); refine hK _ ?_; clear hK K)
  refine af rfl rfl (fun K hK => ?_); (first | ((refine aj _ _ rfl _ _ rfl _ vt.out ?_); go_simp) | go_simp); refine hK _ ?_; clear hK K
  refine ar ?_
  go_upto_region 8 with fail
  have vt := Eh (az (ak (vw.out.blk 2 rfl)))
  have wA := Eh (kG (x := c) HC.out wx.out vw.out)
  go_upto_region 9 with (first | (refine ai rfl _ _ rfl _ _ rfl _ vt.out ?_) | (go_at_call 45; refine wA.out.mono ?_; rintro e7 w7 ⟨y, D7, rfl, hyc, hle7, hyok, hs7⟩; have Ag := Eh hyc; have vB := Eh hle7; have zI := Eh hyok; have vn := Eh (hs7.front 2 rfl); clear hyc hle7 hyok hs7 wA vt vw) | (refine ap rfl _ _ _ rfl tCl bx rfl y.cells rfl c.cells.toArray vn.out (by kernel_rfl) rfl (ClmE.one y) ?_; intro w8 hs8; have vw := Eh hs8; clear hs8 vn))
  obtain ⟨q9, tv9, rv9, rs9, ht9, hr9, h9⟩ := ch (bK vw.out.swap vB.out)
  obtain ⟨c0, c1, c2, c3, _⟩ := bF (h9.blk 0 rfl)
  have vH := Eh (az (w := w8.drew) (ak (h9.drew.blk 3 rfl)))
  have vy := Eh (Ask_C o y (HD.out.mono vB.out) zI.out (by rw [Ag.out]; exact wx.out) zZ.out hh hww h9.drew.swap)
  rw [Ag.out] at vy
  have Ah := Eh ht9
  have Ai := Eh hr9
  clear ht9 hr9 h9 vw
  refine ag [(0, false, 6), (1, false, 6), (2, false, 6), (3, false, 6), (4, false, 6), (5, false, 6), (6, true, 0), (7, false, 999)] (by kernel_rfl) (by kernel_rfl) ?_
  iterate 6 (refine af rfl rfl (fun K hK => ?_); (first | ((refine aj _ _ rfl _ _ rfl _ vH.out ?_); go_simp) | go_simp); refine hK _ ?_; clear hK K)
  refine al rfl ?_
  refine aw rfl (fun K hK => ?_)
  go_simp
  refine vy.out.mono ?_
  rintro e10 w10 ⟨D10, rfl, hle10, hs10⟩
  have wI := Eh hle10
  have vo := Eh (bQ (m := ⟨(bj RC m.q o c.c true).1, m.why⟩) (Ah.out.mono hle10) (Ai.out.mono hle10) hs10.swap)
  clear hle10 hs10 vy vH Ah Ai c0 c1 c2 c3
  refine hK _ _ ?_
  clear hK K
  refine wpList_nil ?_
  refine And.intro ?_ ?_
  ·go_simp
  refine af rfl rfl (fun K hK => ?_); (first | ((refine aj _ _ rfl _ _ rfl _ vH.out ?_); go_simp) | go_simp); refine hK _ ?_; clear hK K
  refine ar ?_
  have vX := Eh (az (w := w10.drew) (ak (vo.out.drew.blk 1 rfl)))
  have Aj := Eh (pT (m := ⟨(bj RC m.q o c.c true).1, m.why⟩) o y (cu dur hand) hwy (zI.out.mono wI.out) vo.out.drew)
  go_upto_region 10 with fail
  refine ag [(0, false, 6), (1, false, 6), (2, false, 6), (3, false, 5), (4, false, 5), (5, true, 0), (6, true, 0)] (by kernel_rfl) (by kernel_rfl) ?_
  iterate 5 (refine af rfl rfl (fun K hK => ?_); (first | ((refine aj _ _ rfl _ _ rfl _ vX.out ?_); go_simp) | go_simp); refine hK _ ?_; clear hK K)
  refine al rfl ?_
  refine aw rfl (fun K hK => ?_)
  go_simp
  refine (i5 dur hand).mono ?_
  rintro e11 w11 ⟨rfl, rfl⟩
  refine hK _ _ ?_
  clear hK K
  refine wpList_nil ?_
  refine And.intro ?_ ?_
  ·(refine bC ?_ (bC ?_ (bC ?_ (bC ?_ (bC ?_ (by unfold dF; trivial))))) <;> first | exact ip _ _ rfl _ _ rfl _ vX.out rfl | go_simp)
  refine al rfl ?_
  refine aw rfl (fun K hK => ?_)
  go_simp
  refine Aj.out.mono ?_
  rintro e12 w12 ⟨rfl, hs12⟩
  have vY := Eh hs12
  clear hs12 Aj vX vo
  refine hK _ _ ?_
  clear hK K
  refine wpList_nil ?_
  refine And.intro ?_ ?_
  ·go_simp
  refine ar ?_
  go_wp2_with fail
  go_ret2
  rw [HO.out]
  have h12 := vY.out.rm2.swap.drop
  rw [Ag.out] at h12
  exact ⟨D10, rfl, vB.out.trans wI.out, h12⟩
end Go.Proofs.YtgljdkjepdknnaaGreatDoor
