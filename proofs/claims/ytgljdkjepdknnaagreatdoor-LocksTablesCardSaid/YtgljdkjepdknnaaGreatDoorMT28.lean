/- Joined texts: Ending what is held to the statement's end, by a cursor, to the end; ending to wait. Ending to wait (locks.Leave). (printed by genlkleave.py) -/
import Derived.Test.YtgljdkjepdknnaaGreatDoorMT23
set_option maxHeartbeats 64000000
namespace Go.Proofs.YtgljdkjepdknnaaGreatDoor
open Go.ChangeShapes Go.WideShapes Go.ChangeAt Go.RowKit
set_option maxRecDepth 100000
set_option linter.unusedSimpArgs false
theorem kj {C : Type} {R : Rul C} (q : Qm C) (o : Int) : (bj R q o).1.held.length + (bj R q o).1.waits.length ≤ q.held.length + q.waits.length := by
 have h1 := j5 (R := R) ⟨q.held, q.waits.filter (fun e => !ofE o e)⟩
 have h2 := List.length_filter_le (fun e => !ofE o e) q.waits
 unfold bj
 exact Nat.le_trans h1 (by dsimp only; omega)
theorem iu {C : Type} {R : Rul C} (q : Qm C) (o : Int) : (bj R q o).2.length ≤ q.waits.length := by
 have h1 := lA (R := R) ⟨q.held, q.waits.filter (fun e => !ofE o e)⟩
 have h2 := List.length_filter_le (fun e => !ofE o e) q.waits
 unfold bj
 dsimp only at h1 h2
 omega
theorem jp {C : Type} {R : Rul C} (q : Qm C) (g : Ent C → Bool) : (a8 R q g).2.length ≤ q.waits.length := by
 have h1 := rU (R := R) q g
 omega
def mf (B : World) (D : PH) (l : List HP) (L : Nat) (ts : List (List Bool)) (room : Int) (R : LkM × List Int) (e : Ending) (w' : World) : Prop := ∃ v D', e = .returned v ∧ PH.le D D' ∧ Sat B D' w' (b7 D' L ts room R.1 :: cq v R.2 :: l)
section
variable {B w : World} {D : PH} {l : List HP} {L : Nat} {ts : List (List Bool)} {room : Int} {m : LkM}
theorem jQ (o : Int) (hD : EnvD D) (hM : m.q.held.length + m.q.waits.length ≤ 1000) (hW : m.why.length ≤ 100000) (h : Sat B D w (b7 D L ts room m :: l)) :
  Calls Tryz.prog 16 #[.pointer (some ⟨L, 0, none⟩), .int .i64 o] w (mf B D l L ts room (di m o 1)) := by
 have wf := BO (sd o 1 hD hM hW h)
 have HB := BO (g8 (w := w) 1 0)
 clear h hD
 go_enter Tryz.func16, Tryz.ntmps16
 go_wp2_with (first | (go_at_call 41; refine HB.out.mono ?_; rintro e1 w1 ⟨rfl, rfl⟩; clear HB; rw [show cj 1 0 = 1 from rfl]) | (go_at_call 48; refine wf.out.mono ?_; rintro e2 w2 ⟨v2, D2, rfl, hle2, hs2⟩; have sX := BO hs2; have tr := BO hle2; clear hs2 hle2 wf))
 go_ret
 exact ⟨_, D2, rfl, tr.out, sX.out⟩
theorem pU (o hand : Int) (hD : EnvD D) (hM : m.q.held.length + m.q.waits.length ≤ 1000) (hW : m.why.length ≤ 100000) (h : Sat B D w (b7 D L ts room m :: l)) :
  Calls Tryz.prog 15 #[.pointer (some ⟨L, 0, none⟩), .int .i64 o, .int .i64 hand] w (mf B D l L ts room (di m o (cj 2 hand))) := by
 have wf := BO (sd o (cj 2 hand) hD hM hW h)
 have HB := BO (g8 (w := w) 2 hand)
 clear h hD
 obtain ⟨bb, hbb⟩ : ∃ bb, cj 2 hand = bb := ⟨_, rfl⟩
 rw [hbb] at wf HB ⊢
 clear hbb
 go_enter Tryz.func15, Tryz.ntmps15
 go_wp2_with (first | (go_at_call 41; refine HB.out.mono ?_; rintro e1 w1 ⟨rfl, rfl⟩; clear HB) | (go_at_call 48; refine wf.out.mono ?_; rintro e2 w2 ⟨v2, D2, rfl, hle2, hs2⟩; have sX := BO hs2; have tr := BO hle2; clear hs2 hle2 wf))
 go_ret
 exact ⟨_, D2, rfl, tr.out, sX.out⟩
theorem endF {B : World} {D : PH} {l : List HP} : gu B D l 66 #[] (fun _ => true) := by
 intro x hx W X hX
 have sW := BO (show Kept (fun _ => False) W (W.alloc (.cells x.cells.toArray tCl)) from (Kept.refl _ _).alloc _)
 clear hX hx
 show Calls Tryz.prog 66 #[.agg x.cells.toArray] W _
 go_enter Tryz.func66, Tryz.ntmps66
 go_wp2_with fail
 go_ret
 exact ⟨rfl, sW.out⟩
theorem End_L (o : Int) (hD : EnvD D) (hM : m.q.held.length + m.q.waits.length ≤ 1000) (h : Sat B D w (b7 D L ts room m :: l)) :
  Calls Tryz.prog 29 #[.pointer (some ⟨L, 0, none⟩), .int .i64 o] w (mf B D l L ts room (gM m o)) := by
 obtain ⟨i0, hi, hz0, hz1, hz2⟩ := info_parts jA
 have HI := BO (And.intro hi (And.intro hz0 (And.intro hz1 hz2)))
 obtain ⟨q, tv, rv, rs, ht, hr, h1⟩ := bW h
 have HT := BO ht
 have HR := BO hr
 have HD := BO hD
 obtain ⟨c0, c1, c2, c3, _⟩ := bA (h1.blk 0 rfl)
 have tm := BO (jF o hD hM h1.swap)
 have hlen1 := kj (R := RC) m.q o
 have hleng := iu (R := RC) m.q o
 clear h ht hr h1 hD hi hz0 hz1 hz2
 go_enter Tryz.func29, Tryz.ntmps29
 go_upto_region 4 with (go_at_call 65; refine tm.out.mono ?_; rintro e1 w1 ⟨v1, rfl, hs1⟩; have sS := BO hs1; clear hs1 tm c0 c1 c2 c3)
 have hs2 : Sat B D w1 (b7 D L ts room ⟨(bj RC m.q o).1, m.why⟩ :: cq v1 (bj RC m.q o).2 :: l) := bN (m := ⟨(bj RC m.q o).1, m.why⟩) HT.out HR.out (((sS.out.front 1 rfl).front 3 rfl).front 2 rfl |>.front 3 rfl)
 have yh := BO (kg o (fun _ => true) (enters_of Tryz.func66 (by kernel_rfl) rfl) (endF (B := B) (D := D) (l := cq v1 (bj RC m.q o).2 :: l)) hs2)
 clear hs2 sS HT HR
 go_upto_region 5 with (go_at_call 52; refine yh.out.mono ?_; rintro e3 w3 ⟨rfl, hs3⟩; have sU := BO hs3; clear hs3 yh)
 obtain ⟨q4, tv4, rv4, rs4, ht4, hr4, h4⟩ := bW sU.out
 have BB := BO ht4
 have BC := BO hr4
 obtain ⟨c0, c1, c2, c3, _⟩ := bA (h4.blk 0 rfl)
 have uj := BO (Clear_C o HD.out (Nat.le_trans hlen1 hM) h4.swap)
 have hlen2 := jp (R := RC) (bj RC m.q o).1 (ofE o)
 obtain ⟨Q1, hQ1⟩ : ∃ Q1, Q1 = bj RC m.q o := ⟨_, rfl⟩
 have vO := BO hQ1
 rw [← hQ1] at uj sU hlen2 hlen1 hleng
 clear ht4 hr4 h4 sU hQ1
 go_wp2_with (first
  | (go_at_call 67; refine uj.out.mono ?_; rintro e5 w5 ⟨v5, rfl, hs5⟩; obtain ⟨va, vc, rfl⟩ := (hs5.front 1 rfl).own_shape; have sV := BO (show Sat B D w5 (aJ 3 1 v1 Q1.2.length (Q1.2.map (Value.int .i64)) :: aJ 3 1 (.slice va (a8 RC Q1.1 (ofE o)).2.length vc) (a8 RC Q1.1 (ofE o)).2.length ((a8 RC Q1.1 (ofE o)).2.map (Value.int .i64)) :: bP D q4 (a8 RC Q1.1 (ofE o)).1 :: lkb L q4 tv4 room rv4 :: ns rv4 rs4 :: l) from (hs5.front 1 rfl).front 4 rfl); have s5 := BO (sV.out.own 1 rfl).rd; clear hs5 uj c0 c1 c2 c3)
  | (at_builtin; refine ar _ rfl _ _ 42 rfl 3 i0 _ 1 8 Tryz.underlying42 HI.out.1 HI.out.2.1 HI.out.2.2.1 HI.out.2.2.2 rfl _ Q1.2.length _ rfl sV.out _ (a8 RC Q1.1 (ofE o)).2.length _ rfl s5.out (by intro u hu; obtain ⟨x, _, rfl⟩ := List.mem_map.1 hu; rfl) (by unfold maxLen; omega) (by omega) ?_; intro v6 w6 hs6 h6; have s0 := BO hs6; clear hs6 h6 sV s5))
 go_ret
 refine ⟨_, D, rfl, PH.le.refl _, ?_⟩
 have h7 : Sat B D w6 (lkb L q4 tv4 room rv4 :: bP D q4 (a8 RC Q1.1 (ofE o)).1 :: ns rv4 rs4 :: aJ 3 1 v6 (Q1.2.length + (a8 RC Q1.1 (ofE o)).2.length) (Q1.2.map (Value.int .i64) ++ (a8 RC Q1.1 (ofE o)).2.map (Value.int .i64)) :: l) := (((s0.out.front 1 rfl).drop.front 3 rfl).front 2 rfl |>.front 3 rfl)
 rw [← List.map_append, ← List.length_append] at h7
 have h8 := bN (m := ⟨(a8 RC Q1.1 (ofE o)).1, bD m.why o (fun _ => true)⟩) BB.out BC.out h7
 have HE := show gM m o = (⟨(a8 RC Q1.1 (ofE o)).1, bD m.why o (fun _ => true)⟩, Q1.2 ++ (a8 RC Q1.1 (ofE o)).2) by unfold gM; rw [← vO.out]
 rw [HE]
 exact h8
end
theorem leaveF {B : World} {D : PH} {l : List HP} {b : Nat} {z : ClmE} (hz : ClOk D z) (i : Nat) (hi : l[i]? = some (blk b z.cells.toArray tCl)) :
  gu B D l 73 #[.pointer (some ⟨b, 0, none⟩)] (fun c => RC.same c z.c) := by
 intro x hx W X hX
 have h2 := hX.blk (X.length + i) (by rw [List.getElem?_append_right (by omega), Nat.add_sub_cancel_left, hi])
 obtain ⟨W1, hW1, hk1, hbx, hb1⟩ := bQ h2 x.cells.toArray tCl
 have sR := BO hW1
 have sW := BO hk1
 have tA := BO (ay (ai hbx))
 have tU := BO (ay (ai hb1))
 have tD := BO (eR ((hx.rd hX).kept hk1) ((hz.rd hX).kept hk1))
 clear h2 hX hW1 hk1 hbx hb1
 show Calls Tryz.prog 73 #[.agg x.cells.toArray, .pointer (some ⟨b, 0, none⟩)] W _
 show Calls _ _ _ W fun e W' => e = .returned (.bool (RC.same x.c z.c)) ∧ _
 generalize RC.same x.c z.c = rr at *
 go_enter Tryz.func73, Tryz.ntmps73
 go_upto_region 1 with fail
 rw [← sR.out]
 clear sR
 generalize W.heap.size = bx at tA ⊢
 go_wp2_with (first | (refine ag rfl _ _ rfl _ _ rfl _ tA.out ?_) | (refine ag rfl _ _ rfl _ _ rfl _ tU.out ?_) | (go_at_call 74; refine tD.out.mono ?_; rintro e1 w1 ⟨rfl, hk3⟩; have s8 := BO (sW.out.trans hk3 (fun _ h => h.elim)); clear hk3 tD tA tU))
 go_ret
 exact ⟨rfl, s8.out⟩
theorem Leave_L {B w : World} {D : PH} {l : List HP} {L : Nat} {ts : List (List Bool)} {room : Int} {m : LkM} (o : Int) (hD : EnvD D) (hM : m.q.held.length + m.q.waits.length ≤ 1000) (h : Sat B D w (b7 D L ts room m :: l)) :
  Calls Tryz.prog 37 #[.pointer (some ⟨L, 0, none⟩), .int .i64 o] w (mf B D l L ts room (dS m o)) := by
 obtain ⟨q, tv, rv, rs, ht, hr, h1⟩ := bW h
 have HT := BO ht
 have HR := BO hr
 obtain ⟨c0, c1, c2, c3, _⟩ := bA (h1.blk 0 rfl)
 have uJ := BO (pa o h1.swap)
 have HD := BO hD
 have HM := BO hM
 clear h ht hr h1 hD hM
 go_enter Tryz.func37, Tryz.ntmps37
 go_upto_region 4 with (first | (go_at_call 42; refine uJ.out.mono ?_; rintro e3 w3 ⟨z, rfl, hzc, hzok, hs3⟩; have vU := BO hzc; have xN := BO hzok; have sU := BO (hs3.alloc z.cells.toArray tCl); clear hzc hzok hs3 uJ c0 c1 c2 c3) | (refine ax rfl _ _ _ rfl z.cells _ _ rfl rfl (by kernel_rfl) rfl (ClmE.one z) ?_))
 obtain ⟨W4, hW4, hs4⟩ := Sat.hide sU.out
 rw [← hW4]
 clear hW4 sU
 generalize w3.heap.size = bz at hs4 ⊢
 have sY := BO (bN HT.out HR.out (((hs4.front 3 rfl).front 2 rfl).front 3 rfl))
 clear hs4
 obtain ⟨wb, hwb⟩ : ∃ wb, (aS m.q o).2 = wb := ⟨_, rfl⟩
 rw [hwb]
 have yi := BO (show ∀ y : List Rsn, y = (if wb && !fi m o z.c then bD m.why o (fun d => RC.same d z.c) else m.why) → dS m o = (⟨(bj RC m.q o).1, y⟩, (bj RC m.q o).2) from fun y hy => by rw [hy, vU.out]; unfold dS; rw [hwb])
 clear hwb
 cases wb
 ·have HY := BO (yi.out m.why rfl)
  have sV := BO (show Sat B D W4 (b7 D L ts room ⟨m.q, m.why⟩ :: blk bz z.cells.toArray tCl :: l) from sY.out)
  go_upto_region 6 with fail
  obtain ⟨q6, tv6, rv6, rs6, ht6, hr6, h6⟩ := bW sV.out
  have xI := BO ht6
  have wK := BO hr6
  obtain ⟨c0, c1, c2, c3, _⟩ := bA (h6.blk 0 rfl)
  have tm := BO (jF o HD.out HM.out h6.swap)
  clear ht6 hr6 h6 sV
  go_wp2_with (go_at_call 65; refine tm.out.mono ?_; rintro e7 w7 ⟨v7, rfl, hs7⟩; have td := BO hs7; clear hs7 tm c0 c1 c2 c3)
  go_ret
  rw [HY.out]
  have h9 := bN (m := ⟨(bj RC m.q o).1, m.why⟩) xI.out wK.out (((td.out.front 3 rfl).front 1 rfl).front 3 rfl)
  exact ⟨_, D, rfl, PH.le.refl _, h9.rm2⟩
 have uw := BO (has_W o z (by have := HM.out; omega) xN.out sY.out)
 have HL := BO (ay (ai (sY.out.blk 1 rfl)))
 cases hh : fi m o z.c
 rotate_left
 ·have HY := BO (yi.out m.why (by rw [hh]; rfl))
  rw [hh] at uw
  clear hh
  go_upto_region 6 with (first | (refine bG rfl _ _ rfl _ _ rfl _ HL.out ?_) | (go_at_call 43; refine uw.out.mono ?_; rintro e5 w5 ⟨rfl, hs5⟩; have sV := BO (show Sat B D w5 (b7 D L ts room ⟨m.q, m.why⟩ :: blk bz z.cells.toArray tCl :: l) from hs5); clear hs5 uw HL sY))
  obtain ⟨q6, tv6, rv6, rs6, ht6, hr6, h6⟩ := bW sV.out
  have xI := BO ht6
  have wK := BO hr6
  obtain ⟨c0, c1, c2, c3, _⟩ := bA (h6.blk 0 rfl)
  have tm := BO (jF o HD.out HM.out h6.swap)
  clear ht6 hr6 h6 sV
  go_wp2_with (go_at_call 65; refine tm.out.mono ?_; rintro e7 w7 ⟨v7, rfl, hs7⟩; have td := BO hs7; clear hs7 tm c0 c1 c2 c3)
  go_ret
  rw [HY.out]
  have h9 := bN (m := ⟨(bj RC m.q o).1, m.why⟩) xI.out wK.out (((td.out.front 3 rfl).front 1 rfl).front 3 rfl)
  exact ⟨_, D, rfl, PH.le.refl _, h9.rm2⟩
 ·have HY := BO (yi.out (bD m.why o (fun d => RC.same d z.c)) (by rw [hh]; rfl))
  rw [hh] at uw
  clear hh
  go_upto_region 5 with (first | (refine bG rfl _ _ rfl _ _ rfl _ HL.out ?_) | (go_at_call 43; refine uw.out.mono ?_; rintro e5 w5 ⟨rfl, hs5⟩; have yh := BO (kg o (fun d => RC.same d z.c) (enters_of Tryz.func73 (by kernel_rfl) rfl) (leaveF (B := B) xN.out (b := bz) (l := blk bz z.cells.toArray tCl :: l) 0 rfl) hs5); clear hs5 uw HL sY))
  go_upto_region 6 with (go_at_call 52; refine yh.out.mono ?_; rintro e6 w6 ⟨rfl, hs6⟩; have sV := BO hs6; clear hs6 yh)
  obtain ⟨q6, tv6, rv6, rs6, ht6, hr6, h6⟩ := bW sV.out
  have xI := BO ht6
  have wK := BO hr6
  obtain ⟨c0, c1, c2, c3, _⟩ := bA (h6.blk 0 rfl)
  have tm := BO (jF o HD.out HM.out h6.swap)
  clear ht6 hr6 h6 sV
  go_wp2_with (go_at_call 65; refine tm.out.mono ?_; rintro e7 w7 ⟨v7, rfl, hs7⟩; have td := BO hs7; clear hs7 tm c0 c1 c2 c3)
  go_ret
  rw [HY.out]
  have h9 := bN (m := ⟨(bj RC m.q o).1, bD m.why o (fun d => RC.same d z.c)⟩) xI.out wK.out (((td.out.front 3 rfl).front 1 rfl).front 3 rfl)
  exact ⟨_, D, rfl, PH.le.refl _, h9.rm2⟩
end Go.Proofs.YtgljdkjepdknnaaGreatDoor
