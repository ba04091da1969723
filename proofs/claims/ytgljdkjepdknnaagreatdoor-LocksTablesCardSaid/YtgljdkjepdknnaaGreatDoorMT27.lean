/- Asking for a claim (locks.Ask). (printed by genlkask.py) -/
import Derived.Test.YtgljdkjepdknnaaGreatDoorMT23
import Derived.Test.YtgljdkjepdknnaaGreatDoorMT25
import Derived.Test.YtgljdkjepdknnaaGreatDoorMT26
set_option maxHeartbeats 64000000
namespace Go.Proofs.YtgljdkjepdknnaaGreatDoor
open Go.ChangeShapes Go.WideShapes Go.ChangeAt Go.RowKit
set_option maxRecDepth 100000
set_option linter.unusedSimpArgs false
def AskedL (B : World) (D : PH) (l : List HP) (L : Nat) (ts : List (List Bool)) (room : Int) (R : LkM × Bool × Int) (r : Ending) (w' : World) : Prop := ∃ D', r = .returned (.tuple #[.bool R.2.1, .int .i64 R.2.2]) ∧ PH.le D D' ∧ Sat B D' w' (b7 D' L ts room R.1 :: l)
theorem pv {m : LkM} {room : Int} {ok : Bool} {o : Int} {c : Clm} {dur hand : Int} (h : ok = false ∨ cj dur hand = 0) : dO m room ok o c dur hand = (m, false, 111) := by
 unfold dO; rw [if_pos (by rcases h with h | h <;> simp [h])]
theorem ox {m : LkM} {room : Int} {o : Int} {c : Clm} {dur hand : Int} (h : cj dur hand ≠ 0) (hw : (aS m.q o).2 = true) : dO m room true o c dur hand = (m, false, 110) := by
 unfold dO; rw [if_neg (by simp [h]), if_pos hw]
theorem pV {m : LkM} {room : Int} {o : Int} {c : Clm} {dur hand : Int} (h : cj dur hand ≠ 0) (hw : (aS m.q o).2 = false) (hh : fi m o c = false) (hr : room ≤ ((m.q.held.length + m.q.waits.length : Nat) : Int)) : dO m room true o c dur hand = (m, false, 62) := by
 unfold dO; rw [if_neg (by simp [h]), if_neg (by simp [hw]), if_pos (by rw [hh, decide_eq_true hr]; rfl)]
theorem pp {m : LkM} {room : Int} {o : Int} {c : Clm} {dur hand : Int} (h : cj dur hand ≠ 0) (hw : (aS m.q o).2 = false) (hh : fi m o c = true ∨ ¬ room ≤ ((m.q.held.length + m.q.waits.length : Nat) : Int)) : dO m room true o c dur hand = (⟨(aV RC m.q o c true).1, cV m.why o c (cj dur hand)⟩, (aV RC m.q o c true).2, 0) := by
 unfold dO; rw [if_neg (by simp [h]), if_neg (by simp [hw]), if_neg (by rcases hh with hh | hh <;> first | (rw [decide_eq_false hh]; simp) | simp [hh])]
theorem o6 {B w : World} {D : PH} {l : List HP} {L : Nat} {ts : List (List Bool)} {room : Int} {m : LkM} (o : Int) (c : ClmE) (dur hand : Int) (hD : EnvD D) (hc : ClOk D c) (hsm : ClmSm 1000000 c.c) (hnd : c.pr.p.nodes.length ≤ 1000000) (hqs : ∀ e ∈ m.q.held, ClmSm 1000000 e.c) (hh : m.q.held.length ≤ 100000) (hww : m.q.waits.length ≤ 1000) (hwy : m.why.length ≤ 100000) (h : Sat B D w (b7 D L ts room m :: l)) :
  Calls Tryz.prog 14 #[.pointer (some ⟨L, 0, none⟩), .int .i64 o, .agg c.cells.toArray, .int .i64 dur, .int .i64 hand] w (AskedL B D l L ts room (dO m room (bK ts c.c) o c.c dur hand)) := by
 obtain ⟨W1, hW1, hs1⟩ := Sat.hide (h.alloc c.cells.toArray tCl)
 have sR := BO hW1
 obtain ⟨q, tv, rv, rs, ht, hr, h1⟩ := bW hs1.swap
 have HT := BO ht
 have HR := BO hr
 have HD := BO hD
 have HC := BO hc
 have t8 := BO hsm
 have xF := BO hqs
 have sS := BO h1
 have t9 := BO (chk_C ht c hc hnd h1.drew)
 have HL := BO (ay (w := W1.drew) (ai (h1.drew.blk 3 rfl)))
 obtain ⟨c0, c1, c2, c3, _⟩ := bA (h1.blk 0 rfl)
 clear h hW1 hs1 ht hr h1 hD hc hsm hnd hqs
 cases hmay : bK ts c.c
 ·rw [hmay] at t9
  have HO := BO (pv (m := m) (room := room) (ok := false) (o := o) (c := c.c) (dur := dur) (hand := hand) (.inl rfl))
  clear hmay
  go_enter Tryz.func14, Tryz.ntmps14
  go_upto_region 1 with fail
  rw [← sR.out]
  clear sR
  generalize w.heap.size = bx at *
  refine af [(0, false, 8), (1, false, 8), (2, false, 8), (3, false, 8), (4, false, 8), (5, false, 8), (6, false, 8), (7, false, 8), (8, true, 0), (9, false, 14), (10, false, 14), (11, false, 14), (12, false, 14), (13, false, 14), (14, true, 0), (15, false, 999), (16, false, 999)] (by kernel_rfl) (by kernel_rfl) ?_
  iterate 3 (refine ae rfl rfl (fun K hK => ?_); (first | ((refine aj _ _ rfl _ _ rfl _ HL.out ?_); go_simp) | go_simp); refine hK _ ?_; clear hK K)
  iterate 5 (first | (refine am rfl rfl ?_; simp only [Act.put, BP, BQ, BR, BS, BT, BU]) | (refine ak rfl rfl (fun K hK => ?_); (first | ((refine aj _ _ rfl _ _ rfl _ HL.out ?_); go_simp) | go_simp); refine hK _ ?_; clear hK K))
  refine al rfl ?_
  refine aw rfl (fun K hK => ?_)
  go_simp
  refine t9.out.mono ?_
  rintro e1 w1 ⟨rfl, hs2⟩
  have sX := BO hs2
  clear hs2 t9 sS HL c0 c1 c2 c3
  refine hK _ _ ?_
  clear hK K
  refine wpList_nil ?_
  refine And.intro ?_ ?_
  ·go_simp
  first | (refine am rfl rfl ?_; simp only [Act.put, BP, BQ, BR, BS, BT, BU]) | (refine ak rfl rfl (fun K hK => ?_); (first | ((refine aj _ _ rfl _ _ rfl _ HL.out ?_); go_simp) | go_simp); refine hK _ ?_; clear hK K)
  iterate 2 (refine ae rfl rfl (fun K hK => ?_); (first | ((refine aj _ _ rfl _ _ rfl _ HL.out ?_); go_simp) | go_simp); refine hK _ ?_; clear hK K)
  iterate 2 (first | (refine am rfl rfl ?_; simp only [Act.put, BP, BQ, BR, BS, BT, BU]) | (refine ak rfl rfl (fun K hK => ?_); (first | ((refine aj _ _ rfl _ _ rfl _ HL.out ?_); go_simp) | go_simp); refine hK _ ?_; clear hK K))
  refine al rfl ?_
  refine bI rfl ?_
  simp only [Act.put, BP, BQ, BR]
  refine wpList_nil ?_
  refine And.intro ?_ ?_
  ·go_simp
  first | (refine am rfl rfl ?_; simp only [Act.put, BP, BQ, BR, BS, BT, BU]) | (refine ak rfl rfl (fun K hK => ?_); (first | ((refine aj _ _ rfl _ _ rfl _ HL.out ?_); go_simp) | go_simp); refine hK _ ?_; clear hK K)
  refine ae rfl rfl (fun K hK => ?_); (first | ((refine aj _ _ rfl _ _ rfl _ HL.out ?_); go_simp) | go_simp); refine hK _ ?_; clear hK K
  refine ap ?_
  go_wp2_with fail
  go_ret2
  rw [HO.out]
  exact ⟨D, rfl, PH.le.refl _, bN HT.out HR.out (sX.out.front 3 rfl).drop⟩
 rw [hmay] at t9
 clear hmay
 by_cases hb : cj dur hand = 0
 ·have HO := BO (pv (m := m) (room := room) (ok := true) (o := o) (c := c.c) (dur := dur) (hand := hand) (.inr hb))
  have HB := BO hb
  clear hb
  go_enter Tryz.func14, Tryz.ntmps14
  go_upto_region 1 with fail
  rw [← sR.out]
  clear sR
  generalize w.heap.size = bx at *
  refine af [(0, false, 8), (1, false, 8), (2, false, 8), (3, false, 8), (4, false, 8), (5, false, 8), (6, false, 8), (7, false, 8), (8, true, 0), (9, false, 14), (10, false, 14), (11, false, 14), (12, false, 14), (13, false, 14), (14, true, 0), (15, false, 999), (16, false, 999)] (by kernel_rfl) (by kernel_rfl) ?_
  iterate 3 (refine ae rfl rfl (fun K hK => ?_); (first | ((refine aj _ _ rfl _ _ rfl _ HL.out ?_); go_simp) | go_simp); refine hK _ ?_; clear hK K)
  iterate 5 (first | (refine am rfl rfl ?_; simp only [Act.put, BP, BQ, BR, BS, BT, BU]) | (refine ak rfl rfl (fun K hK => ?_); (first | ((refine aj _ _ rfl _ _ rfl _ HL.out ?_); go_simp) | go_simp); refine hK _ ?_; clear hK K))
  refine al rfl ?_
  refine aw rfl (fun K hK => ?_)
  go_simp
  refine t9.out.mono ?_
  rintro e1 w1 ⟨rfl, hs2⟩
  have sX := BO hs2
  clear hs2 t9 sS HL c0 c1 c2 c3
  refine hK _ _ ?_
  clear hK K
  refine wpList_nil ?_
  refine And.intro ?_ ?_
  ·go_simp
  first | (refine am rfl rfl ?_; simp only [Act.put, BP, BQ, BR, BS, BT, BU]) | (refine ak rfl rfl (fun K hK => ?_); (first | ((refine aj _ _ rfl _ _ rfl _ HL.out ?_); go_simp) | go_simp); refine hK _ ?_; clear hK K)
  iterate 2 (refine ae rfl rfl (fun K hK => ?_); (first | ((refine aj _ _ rfl _ _ rfl _ HL.out ?_); go_simp) | go_simp); refine hK _ ?_; clear hK K)
  iterate 2 (first | (refine am rfl rfl ?_; simp only [Act.put, BP, BQ, BR, BS, BT, BU]) | (refine ak rfl rfl (fun K hK => ?_); (first | ((refine aj _ _ rfl _ _ rfl _ HL.out ?_); go_simp) | go_simp); refine hK _ ?_; clear hK K))
  refine al rfl ?_
  refine aw rfl (fun K hK => ?_)
  go_simp
  refine (g8 dur hand).mono ?_
  rintro e2 w2 ⟨rfl, rfl⟩
  rw [HB.out]
  refine hK _ _ ?_
  clear hK K
  refine wpList_nil ?_
  refine And.intro ?_ ?_
  ·go_simp
  first | (refine am rfl rfl ?_; simp only [Act.put, BP, BQ, BR, BS, BT, BU]) | (refine ak rfl rfl (fun K hK => ?_); (first | ((refine aj _ _ rfl _ _ rfl _ HL.out ?_); go_simp) | go_simp); refine hK _ ?_; clear hK K)
  refine ae rfl rfl (fun K hK => ?_); (first | ((refine aj _ _ rfl _ _ rfl _ HL.out ?_); go_simp) | go_simp); refine hK _ ?_; clear hK K
  refine ap ?_
  go_wp2_with fail
  go_ret2
  rw [HO.out]
  exact ⟨D, rfl, PH.le.refl _, bN HT.out HR.out (sX.out.front 3 rfl).drop⟩
 have hb1 : (cj dur hand == 0) = false := by simpa using hb
 have HB := BO hb
 have sZ := BO hb1
 obtain ⟨bb, hbb⟩ : ∃ bb, cj dur hand = bb := ⟨_, rfl⟩
 have yq := BO hbb
 rw [hbb] at hb hb1
 clear hbb hb
 go_enter Tryz.func14, Tryz.ntmps14
 go_upto_region 1 with fail
 rw [← sR.out]
 clear sR
 generalize w.heap.size = bx at *
 refine af [(0, false, 8), (1, false, 8), (2, false, 8), (3, false, 8), (4, false, 8), (5, false, 8), (6, false, 8), (7, false, 8), (8, true, 0), (9, false, 14), (10, false, 14), (11, false, 14), (12, false, 14), (13, false, 14), (14, true, 0), (15, false, 999), (16, false, 999)] (by kernel_rfl) (by kernel_rfl) ?_
 iterate 3 (refine ae rfl rfl (fun K hK => ?_); (first | ((refine aj _ _ rfl _ _ rfl _ HL.out ?_); go_simp) | go_simp); refine hK _ ?_; clear hK K)
 iterate 5 (first | (refine am rfl rfl ?_; simp only [Act.put, BP, BQ, BR, BS, BT, BU]) | (refine ak rfl rfl (fun K hK => ?_); (first | ((refine aj _ _ rfl _ _ rfl _ HL.out ?_); go_simp) | go_simp); refine hK _ ?_; clear hK K))
 refine al rfl ?_
 refine aw rfl (fun K hK => ?_)
 go_simp
 refine t9.out.mono ?_
 rintro e1 w1 ⟨rfl, hs2⟩
 have sX := BO hs2
 clear hs2 t9 sS HL c0 c1 c2 c3
 refine hK _ _ ?_
 clear hK K
 refine wpList_nil ?_
 refine And.intro ?_ ?_
 ·go_simp
 first | (refine am rfl rfl ?_; simp only [Act.put, BP, BQ, BR, BS, BT, BU]) | (refine ak rfl rfl (fun K hK => ?_); (first | ((refine aj _ _ rfl _ _ rfl _ HL.out ?_); go_simp) | go_simp); refine hK _ ?_; clear hK K)
 iterate 2 (refine ae rfl rfl (fun K hK => ?_); (first | ((refine aj _ _ rfl _ _ rfl _ HL.out ?_); go_simp) | go_simp); refine hK _ ?_; clear hK K)
 iterate 2 (first | (refine am rfl rfl ?_; simp only [Act.put, BP, BQ, BR, BS, BT, BU]) | (refine ak rfl rfl (fun K hK => ?_); (first | ((refine aj _ _ rfl _ _ rfl _ HL.out ?_); go_simp) | go_simp); refine hK _ ?_; clear hK K))
 refine al rfl ?_
 refine aw rfl (fun K hK => ?_)
 go_simp
 refine (g8 dur hand).mono ?_
 rintro e2 w2 ⟨rfl, rfl⟩
 rw [yq.out]
 refine hK _ _ ?_
 clear hK K
 refine wpList_nil ?_
 refine And.intro ?_ ?_
 ·go_simp
 first | (refine am rfl rfl ?_; simp only [Act.put, BP, BQ, BR, BS, BT, BU]) | (refine ak rfl rfl (fun K hK => ?_); (first | ((refine aj _ _ rfl _ _ rfl _ HL.out ?_); go_simp) | go_simp); refine hK _ ?_; clear hK K)
 refine ae rfl rfl (fun K hK => ?_); (first | ((refine aj _ _ rfl _ _ rfl _ HL.out ?_); go_simp) | go_simp); refine hK _ ?_; clear hK K
 refine ap ?_
 go_upto_region 3 with fail
 clear hb1
 obtain ⟨c0, c1, c2, c3, _⟩ := bA (sX.out.blk 0 rfl)
 have uJ := BO (pa o sX.out.swap)
 go_upto_region 4 with (first | (go_at_call 42; refine uJ.out.mono ?_; rintro e3 w3 ⟨z, rfl, hzc, hzok, hs3⟩; have sU := BO (hs3.alloc z.cells.toArray tCl); clear hzc hzok hs3 uJ sX c0 c1 c2 c3) | (refine ax rfl _ _ _ rfl z.cells _ _ rfl rfl (by kernel_rfl) rfl (ClmE.one z) ?_))
 obtain ⟨W4, hW4, hs4⟩ := Sat.hide sU.out
 rw [← hW4]
 clear hW4 sU
 generalize w3.heap.size = bz at hs4 ⊢
 have sY := BO (bN HT.out HR.out (((hs4.front 3 rfl).front 2 rfl).front 3 rfl))
 clear hs4
 cases hwt : (aS m.q o).2
 rotate_left
 ·have HO := BO (ox (room := room) (c := c.c) HB.out hwt)
  clear hwt
  go_wp2_with fail
  go_ret2
  rw [HO.out]
  exact ⟨D, rfl, PH.le.refl _, sY.out.rm2.swap.drop⟩
 have uJ := BO hwt
 clear hwt
 have uw := BO (has_W o c hh HC.out sY.out.drew)
 have th := BO (ay (w := W4.drew) (ai (sY.out.drew.blk 2 rfl)))
 go_upto_region 6 with fail
 cases hhas : fi m o c.c
 ·rw [hhas] at uw
  obtain ⟨lnv, hlnv⟩ : ∃ lnv, lnv = m.q.held.length + m.q.waits.length := ⟨_, rfl⟩
  have tE := BO hlnv
  by_cases hroom : room ≤ (lnv : Int)
  ·have HO := BO (pV (c := c.c) HB.out uJ.out hhas (by rw [← hlnv]; exact hroom))
   have hroom' : (lnv : Int) ≥ room := hroom
   clear hhas hroom hlnv
   refine af [(0, false, 3), (1, false, 3), (2, false, 3), (3, true, 0), (4, false, 10), (5, false, 10), (6, false, 10), (7, false, 10), (8, false, 10), (9, false, 10), (11, false, 999), (12, false, 999), (13, false, 999), (14, false, 999), (10, true, 0), (15, false, 999), (16, false, 999)] (by kernel_rfl) (by kernel_rfl) ?_
   iterate 3 (refine ae rfl rfl (fun K hK => ?_); (first | ((refine aj _ _ rfl _ _ rfl _ th.out ?_); go_simp) | go_simp); refine hK _ ?_; clear hK K)
   refine al rfl ?_
   refine aw rfl (fun K hK => ?_)
   go_simp
   refine uw.out.mono ?_
   rintro e5 w5 ⟨rfl, hs5⟩
   obtain ⟨q6, tv6, rv6, rs6, ht6, hr6, h6⟩ := bW hs5
   obtain ⟨c0, c1, c2, c3, _⟩ := bA (h6.blk 0 rfl)
   have tO := BO (rX (by omega) h6.swap)
   have sV := BO h6.swap
   have xI := BO ht6
   have wK := BO hr6
   clear hs5 ht6 hr6 h6 uw sY th
   rw [← tE.out] at tO
   refine hK _ _ ?_
   clear hK K
   refine wpList_nil ?_
   refine And.intro ?_ ?_
   ·go_simp
   iterate 2 (refine ae rfl rfl (fun K hK => ?_); (first | ((refine aj _ _ rfl _ _ rfl _ th.out ?_); go_simp) | go_simp); refine hK _ ?_; clear hK K)
   iterate 8 (first | (refine am rfl rfl ?_; simp only [Act.put, BP, BQ, BR, BS, BT, BU]) | (refine ak rfl rfl (fun K hK => ?_); (first | ((refine aj _ _ rfl _ _ rfl _ th.out ?_); go_simp) | go_simp); refine hK _ ?_; clear hK K))
   refine al rfl ?_
   refine aw rfl (fun K hK => ?_)
   go_simp
   refine tO.out.mono ?_
   rintro e6 w6 ⟨rfl, hk6⟩
   have s0 := BO (sV.out.kept hk6)
   clear hk6 tO sV c0 c1 c2 c3
   obtain ⟨c0, c1, c2, c3, _⟩ := bA (s0.out.blk 1 rfl)
   refine hK _ _ ?_
   clear hK K
   refine wpList_nil ?_
   refine And.intro ?_ ?_
   ·go_simp
   first | (refine am rfl rfl ?_; simp only [Act.put, BP, BQ, BR, BS, BT, BU]) | (refine ak rfl rfl (fun K hK => ?_); (first | ((refine aj _ _ rfl _ _ rfl _ th.out ?_); go_simp) | go_simp); refine hK _ ?_; clear hK K)
   refine ae rfl rfl (fun K hK => ?_); (first | ((refine aj _ _ rfl _ _ rfl _ th.out ?_); go_simp) | go_simp); refine hK _ ?_; clear hK K
   refine ap ?_
   go_wp2_with fail
   go_ret2
   rw [HO.out]
   exact ⟨D, rfl, PH.le.refl _, (bN xI.out wK.out s0.out.swap).rm2.swap.drop⟩
  ·have HO := BO (pp (c := c.c) HB.out uJ.out (.inr (by rw [← hlnv]; exact hroom)))
   have hroom' : ¬ (lnv : Int) ≥ room := hroom
   clear hhas hroom hlnv
   refine af [(0, false, 3), (1, false, 3), (2, false, 3), (3, true, 0), (4, false, 10), (5, false, 10), (6, false, 10), (7, false, 10), (8, false, 10), (9, false, 10), (11, false, 999), (12, false, 999), (13, false, 999), (14, false, 999), (10, true, 0), (15, false, 999), (16, false, 999)] (by kernel_rfl) (by kernel_rfl) ?_
   iterate 3 (refine ae rfl rfl (fun K hK => ?_); (first | ((refine aj _ _ rfl _ _ rfl _ th.out ?_); go_simp) | go_simp); refine hK _ ?_; clear hK K)
   refine al rfl ?_
   refine aw rfl (fun K hK => ?_)
   go_simp
   refine uw.out.mono ?_
   rintro e5 w5 ⟨rfl, hs5⟩
   obtain ⟨q6, tv6, rv6, rs6, ht6, hr6, h6⟩ := bW hs5
   obtain ⟨c0, c1, c2, c3, _⟩ := bA (h6.blk 0 rfl)
   have tO := BO (rX (by omega) h6.swap)
   have sV := BO h6.swap
   have xI := BO ht6
   have wK := BO hr6
   clear hs5 ht6 hr6 h6 uw sY th
   rw [← tE.out] at tO
   refine hK _ _ ?_
   clear hK K
   refine wpList_nil ?_
   refine And.intro ?_ ?_
   ·go_simp
   iterate 2 (refine ae rfl rfl (fun K hK => ?_); (first | ((refine aj _ _ rfl _ _ rfl _ th.out ?_); go_simp) | go_simp); refine hK _ ?_; clear hK K)
   iterate 8 (first | (refine am rfl rfl ?_; simp only [Act.put, BP, BQ, BR, BS, BT, BU]) | (refine ak rfl rfl (fun K hK => ?_); (first | ((refine aj _ _ rfl _ _ rfl _ th.out ?_); go_simp) | go_simp); refine hK _ ?_; clear hK K))
   refine al rfl ?_
   refine aw rfl (fun K hK => ?_)
   go_simp
   refine tO.out.mono ?_
   rintro e6 w6 ⟨rfl, hk6⟩
   have s0 := BO (sV.out.kept hk6)
   clear hk6 tO sV c0 c1 c2 c3
   obtain ⟨c0, c1, c2, c3, _⟩ := bA (s0.out.blk 1 rfl)
   refine hK _ _ ?_
   clear hK K
   refine wpList_nil ?_
   refine And.intro ?_ ?_
   ·go_simp
   first | (refine am rfl rfl ?_; simp only [Act.put, BP, BQ, BR, BS, BT, BU]) | (refine ak rfl rfl (fun K hK => ?_); (first | ((refine aj _ _ rfl _ _ rfl _ th.out ?_); go_simp) | go_simp); refine hK _ ?_; clear hK K)
   refine ae rfl rfl (fun K hK => ?_); (first | ((refine aj _ _ rfl _ _ rfl _ th.out ?_); go_simp) | go_simp); refine hK _ ?_; clear hK K
   refine ap ?_
   have tj := BO (bN xI.out wK.out s0.out.swap)
   clear s0 xI wK
   clear hroom'
   go_upto_region 8 with fail
   have th := BO (ay (ai (tj.out.blk 2 rfl)))
   have uj := BO (lS (x := c) HC.out t8.out tj.out)
   go_upto_region 9 with (first | (refine ag rfl _ _ rfl _ _ rfl _ th.out ?_) | (go_at_call 45; refine uj.out.mono ?_; rintro e7 w7 ⟨y, D7, rfl, hyc, hle7, hyok, hs7⟩; have yC := BO hyc; have tq := BO hle7; have xi := BO hyok; have td := BO (hs7.front 2 rfl); clear hyc hle7 hyok hs7 uj th tj) | (refine aq rfl _ _ _ rfl tCl bx rfl y.cells rfl c.cells.toArray td.out (by kernel_rfl) rfl (ClmE.one y) ?_; intro w8 hs8; have tj := BO hs8; clear hs8 td))
   obtain ⟨q9, tv9, rv9, rs9, ht9, hr9, h9⟩ := bW (cu tj.out.swap tq.out)
   obtain ⟨c0, c1, c2, c3, _⟩ := bA (h9.blk 0 rfl)
   have tC := BO (ay (w := w8.drew) (ai (h9.drew.blk 3 rfl)))
   have tk := BO (Ask_C o y (HD.out.mono tq.out) xi.out (by rw [yC.out]; exact t8.out) xF.out hh hww h9.drew.swap)
   rw [yC.out] at tk
   have xO := BO ht9
   have xP := BO hr9
   clear ht9 hr9 h9 tj
   refine af [(0, false, 6), (1, false, 6), (2, false, 6), (3, false, 6), (4, false, 6), (5, false, 6), (6, true, 0), (7, false, 999)] (by kernel_rfl) (by kernel_rfl) ?_
   iterate 6 (refine ae rfl rfl (fun K hK => ?_); (first | ((refine aj _ _ rfl _ _ rfl _ tC.out ?_); go_simp) | go_simp); refine hK _ ?_; clear hK K)
   refine al rfl ?_
   refine aw rfl (fun K hK => ?_)
   go_simp
   refine tk.out.mono ?_
   rintro e10 w10 ⟨D10, rfl, hle10, hs10⟩
   have um := BO hle10
   have s9 := BO (bN (m := ⟨(aV RC m.q o c.c true).1, m.why⟩) (xO.out.mono hle10) (xP.out.mono hle10) hs10.swap)
   clear hle10 hs10 tk tC xO xP c0 c1 c2 c3
   refine hK _ _ ?_
   clear hK K
   refine wpList_nil ?_
   refine And.intro ?_ ?_
   ·go_simp
   refine ae rfl rfl (fun K hK => ?_); (first | ((refine aj _ _ rfl _ _ rfl _ tC.out ?_); go_simp) | go_simp); refine hK _ ?_; clear hK K
   refine ap ?_
   have tG := BO (ay (w := w10.drew) (ai (s9.out.drew.blk 1 rfl)))
   have xQ := BO (nL (m := ⟨(aV RC m.q o c.c true).1, m.why⟩) o y (cj dur hand) hwy (xi.out.mono um.out) s9.out.drew)
   go_upto_region 10 with fail
   refine af [(0, false, 6), (1, false, 6), (2, false, 6), (3, false, 5), (4, false, 5), (5, true, 0), (6, true, 0)] (by kernel_rfl) (by kernel_rfl) ?_
   iterate 5 (refine ae rfl rfl (fun K hK => ?_); (first | ((refine aj _ _ rfl _ _ rfl _ tG.out ?_); go_simp) | go_simp); refine hK _ ?_; clear hK K)
   refine al rfl ?_
   refine aw rfl (fun K hK => ?_)
   go_simp
   refine (g8 dur hand).mono ?_
   rintro e11 w11 ⟨rfl, rfl⟩
   refine hK _ _ ?_
   clear hK K
   refine wpList_nil ?_
   refine And.intro ?_ ?_
   ·(refine ch ?_ (ch ?_ (ch ?_ (ch ?_ (ch ?_ (by unfold fe; trivial))))) <;> first | exact mj _ _ rfl _ _ rfl _ tG.out rfl | go_simp)
   refine al rfl ?_
   refine aw rfl (fun K hK => ?_)
   go_simp
   refine xQ.out.mono ?_
   rintro e12 w12 ⟨rfl, hs12⟩
   have tT := BO hs12
   clear hs12 xQ tG s9
   refine hK _ _ ?_
   clear hK K
   refine wpList_nil ?_
   refine And.intro ?_ ?_
   ·go_simp
   refine ap ?_
   go_wp2_with fail
   go_ret2
   rw [HO.out]
   have h12 := tT.out.rm2.swap.drop
   rw [yC.out] at h12
   exact ⟨D10, rfl, tq.out.trans um.out, h12⟩
 ·rw [hhas] at uw
  have HO := BO (pp (room := room) (c := c.c) HB.out uJ.out (.inl hhas))
  clear hhas
  refine af [(0, false, 3), (1, false, 3), (2, false, 3), (3, true, 0), (4, false, 10), (5, false, 10), (6, false, 10), (7, false, 10), (8, false, 10), (9, false, 10), (11, false, 999), (12, false, 999), (13, false, 999), (14, false, 999), (10, true, 0), (15, false, 999), (16, false, 999)] (by kernel_rfl) (by kernel_rfl) ?_
  iterate 3 (refine ae rfl rfl (fun K hK => ?_); (first | ((refine aj _ _ rfl _ _ rfl _ th.out ?_); go_simp) | go_simp); refine hK _ ?_; clear hK K)
  refine al rfl ?_
  refine aw rfl (fun K hK => ?_)
  go_simp
  refine uw.out.mono ?_
  rintro e5 w5 ⟨rfl, hs5⟩
  have tj := BO hs5
  clear hs5 uw sY th
  refine hK _ _ ?_
  clear hK K
  refine wpList_nil ?_
  refine And.intro ?_ ?_
  ·go_simp
  iterate 2 (refine ae rfl rfl (fun K hK => ?_); (first | ((refine aj _ _ rfl _ _ rfl _ th.out ?_); go_simp) | go_simp); refine hK _ ?_; clear hK K)
  iterate 8 (first | (refine am rfl rfl ?_; simp only [Act.put, BP, BQ, BR, BS, BT, BU]) | (refine ak rfl rfl (fun K hK => ?_); (first | ((refine aj _ _ rfl _ _ rfl _ th.out ?_); go_simp) | go_simp); refine hK _ ?_; clear hK K))
  refine al rfl ?_
  refine bI rfl ?_
  simp only [Act.put, BP, BQ, BR]
  refine wpList_nil ?_
  refine And.intro ?_ ?_
  ·go_simp
  first | (refine am rfl rfl ?_; simp only [Act.put, BP, BQ, BR, BS, BT, BU]) | (refine ak rfl rfl (fun K hK => ?_); (first | ((refine aj _ _ rfl _ _ rfl _ th.out ?_); go_simp) | go_simp); refine hK _ ?_; clear hK K)
  refine ae rfl rfl (fun K hK => ?_); (first | ((refine aj _ _ rfl _ _ rfl _ th.out ?_); go_simp) | go_simp); refine hK _ ?_; clear hK K
  refine ap ?_
  go_upto_region 8 with fail
  have th := BO (ay (ai (tj.out.blk 2 rfl)))
  have uj := BO (lS (x := c) HC.out t8.out tj.out)
  go_upto_region 9 with (first | (refine ag rfl _ _ rfl _ _ rfl _ th.out ?_) | (go_at_call 45; refine uj.out.mono ?_; rintro e7 w7 ⟨y, D7, rfl, hyc, hle7, hyok, hs7⟩; have yC := BO hyc; have tq := BO hle7; have xi := BO hyok; have td := BO (hs7.front 2 rfl); clear hyc hle7 hyok hs7 uj th tj) | (refine aq rfl _ _ _ rfl tCl bx rfl y.cells rfl c.cells.toArray td.out (by kernel_rfl) rfl (ClmE.one y) ?_; intro w8 hs8; have tj := BO hs8; clear hs8 td))
  obtain ⟨q9, tv9, rv9, rs9, ht9, hr9, h9⟩ := bW (cu tj.out.swap tq.out)
  obtain ⟨c0, c1, c2, c3, _⟩ := bA (h9.blk 0 rfl)
  have tC := BO (ay (w := w8.drew) (ai (h9.drew.blk 3 rfl)))
  have tk := BO (Ask_C o y (HD.out.mono tq.out) xi.out (by rw [yC.out]; exact t8.out) xF.out hh hww h9.drew.swap)
  rw [yC.out] at tk
  have xO := BO ht9
  have xP := BO hr9
  clear ht9 hr9 h9 tj
  refine af [(0, false, 6), (1, false, 6), (2, false, 6), (3, false, 6), (4, false, 6), (5, false, 6), (6, true, 0), (7, false, 999)] (by kernel_rfl) (by kernel_rfl) ?_
  iterate 6 (refine ae rfl rfl (fun K hK => ?_); (first | ((refine aj _ _ rfl _ _ rfl _ tC.out ?_); go_simp) | go_simp); refine hK _ ?_; clear hK K)
  refine al rfl ?_
  refine aw rfl (fun K hK => ?_)
  go_simp
  refine tk.out.mono ?_
  rintro e10 w10 ⟨D10, rfl, hle10, hs10⟩
  have um := BO hle10
  have s9 := BO (bN (m := ⟨(aV RC m.q o c.c true).1, m.why⟩) (xO.out.mono hle10) (xP.out.mono hle10) hs10.swap)
  clear hle10 hs10 tk tC xO xP c0 c1 c2 c3
  refine hK _ _ ?_
  clear hK K
  refine wpList_nil ?_
  refine And.intro ?_ ?_
  ·go_simp
  refine ae rfl rfl (fun K hK => ?_); (first | ((refine aj _ _ rfl _ _ rfl _ tC.out ?_); go_simp) | go_simp); refine hK _ ?_; clear hK K
  refine ap ?_
  have tG := BO (ay (w := w10.drew) (ai (s9.out.drew.blk 1 rfl)))
  have xQ := BO (nL (m := ⟨(aV RC m.q o c.c true).1, m.why⟩) o y (cj dur hand) hwy (xi.out.mono um.out) s9.out.drew)
  go_upto_region 10 with fail
  refine af [(0, false, 6), (1, false, 6), (2, false, 6), (3, false, 5), (4, false, 5), (5, true, 0), (6, true, 0)] (by kernel_rfl) (by kernel_rfl) ?_
  iterate 5 (refine ae rfl rfl (fun K hK => ?_); (first | ((refine aj _ _ rfl _ _ rfl _ tG.out ?_); go_simp) | go_simp); refine hK _ ?_; clear hK K)
  refine al rfl ?_
  refine aw rfl (fun K hK => ?_)
  go_simp
  refine (g8 dur hand).mono ?_
  rintro e11 w11 ⟨rfl, rfl⟩
  refine hK _ _ ?_
  clear hK K
  refine wpList_nil ?_
  refine And.intro ?_ ?_
  ·(refine ch ?_ (ch ?_ (ch ?_ (ch ?_ (ch ?_ (by unfold fe; trivial))))) <;> first | exact mj _ _ rfl _ _ rfl _ tG.out rfl | go_simp)
  refine al rfl ?_
  refine aw rfl (fun K hK => ?_)
  go_simp
  refine xQ.out.mono ?_
  rintro e12 w12 ⟨rfl, hs12⟩
  have tT := BO hs12
  clear hs12 xQ tG s9
  refine hK _ _ ?_
  clear hK K
  refine wpList_nil ?_
  refine And.intro ?_ ?_
  ·go_simp
  refine ap ?_
  go_wp2_with fail
  go_ret2
  rw [HO.out]
  have h12 := tT.out.rm2.swap.drop
  rw [yC.out] at h12
  exact ⟨D10, rfl, tq.out.trans um.out, h12⟩
end Go.Proofs.YtgljdkjepdknnaaGreatDoor
