/- Joined texts: Ending what is held to the statement's end, by a cursor, to the end; ending to wait. Ending to wait (locks.Leave). (printed by genlkleave.py) -/
import Derived.Test.YtgljdkjepdknnaaGreatDoorML23
set_option maxHeartbeats 64000000
namespace Go.Proofs.YtgljdkjepdknnaaGreatDoor
open Go.ChangeShapes Go.WideShapes Go.ChangeAt Go.RowKit
set_option maxRecDepth 100000
set_option linter.unusedSimpArgs false
theorem kY {C : Type} {R : Rul C} (q : Qm C) (o : Int) : (bu R q o).1.held.length + (bu R q o).1.waits.length ≤ q.held.length + q.waits.length := by
 have h1 := kP (R := R) ⟨q.held, q.waits.filter (fun e => !ofE o e)⟩
 have h2 := List.length_filter_le (fun e => !ofE o e) q.waits
 unfold bu
 exact Nat.le_trans h1 (by dsimp only; omega)
theorem ja {C : Type} {R : Rul C} (q : Qm C) (o : Int) : (bu R q o).2.length ≤ q.waits.length := by
 have h1 := mE (R := R) ⟨q.held, q.waits.filter (fun e => !ofE o e)⟩
 have h2 := List.length_filter_le (fun e => !ofE o e) q.waits
 unfold bu
 dsimp only at h1 h2
 omega
theorem kh {C : Type} {R : Rul C} (q : Qm C) (g : Ent C → Bool) : (aY R q g).2.length ≤ q.waits.length := by
 have h1 := uj (R := R) q g
 omega
def nm (B : World) (D : PH) (l : List HP) (L : Nat) (ts : List (List Bool)) (room : Int) (R : LkM × List Int) (e : Ending) (w' : World) : Prop := ∃ v D', e = .returned v ∧ PH.le D D' ∧ Sat B D' w' (cd D' L ts room R.1 :: cj v R.2 :: l)
section
variable {B w : World} {D : PH} {l : List HP} {L : Nat} {ts : List (List Bool)} {room : Int} {m : LkM}
theorem i4 (o : Int) (hD : EnvD D) (hM : m.q.held.length + m.q.waits.length ≤ 1000) (hW : m.why.length ≤ 100000) (h : Sat B D w (cd D L ts room m :: l)) :
  Calls Tryz.prog 16 #[.pointer (some ⟨L, 0, none⟩), .int .i64 o] w (nm B D l L ts room (cY m o 1)) := by
 have yI := Eh (tO o 1 hD hM hW h)
 have HB := Eh (i5 (w := w) 1 0)
 clear h hD
 go_enter Tryz.func16, Tryz.ntmps16
 go_wp2_with (first | (go_at_call 41; refine HB.out.mono ?_; rintro e1 w1 ⟨rfl, rfl⟩; clear HB; rw [show cu 1 0 = 1 from rfl]) | (go_at_call 48; refine yI.out.mono ?_; rintro e2 w2 ⟨v2, D2, rfl, hle2, hs2⟩; have vg := Eh hs2; have vv := Eh hle2; clear hs2 hle2 yI))
 go_ret
 exact ⟨_, D2, rfl, vv.out, vg.out⟩
theorem jB (o hand : Int) (hD : EnvD D) (hM : m.q.held.length + m.q.waits.length ≤ 1000) (hW : m.why.length ≤ 100000) (h : Sat B D w (cd D L ts room m :: l)) :
  Calls Tryz.prog 15 #[.pointer (some ⟨L, 0, none⟩), .int .i64 o, .int .i64 hand] w (nm B D l L ts room (cY m o (cu 2 hand))) := by
 have yI := Eh (tO o (cu 2 hand) hD hM hW h)
 have HB := Eh (i5 (w := w) 2 hand)
 clear h hD
 obtain ⟨bb, hbb⟩ : ∃ bb, cu 2 hand = bb := ⟨_, rfl⟩
 rw [hbb] at yI HB ⊢
 clear hbb
 go_enter Tryz.func15, Tryz.ntmps15
 go_wp2_with (first | (go_at_call 41; refine HB.out.mono ?_; rintro e1 w1 ⟨rfl, rfl⟩; clear HB) | (go_at_call 48; refine yI.out.mono ?_; rintro e2 w2 ⟨v2, D2, rfl, hle2, hs2⟩; have vg := Eh hs2; have vv := Eh hle2; clear hs2 hle2 yI))
 go_ret
 exact ⟨_, D2, rfl, vv.out, vg.out⟩
theorem endF {B : World} {D : PH} {l : List HP} : gW B D l 66 #[] (fun _ => true) := by
 intro x hx W X hX
 have vd := Eh (show Kept (fun _ => False) W (W.alloc (.cells x.cells.toArray tCl)) from (Kept.refl _ _).alloc _)
 clear hX hx
 show Calls Tryz.prog 66 #[.agg x.cells.toArray] W _
 go_enter Tryz.func66, Tryz.ntmps66
 go_wp2_with fail
 go_ret
 exact ⟨rfl, vd.out⟩
theorem ri (o : Int) (hD : EnvD D) (hM : m.q.held.length + m.q.waits.length ≤ 1000) (h : Sat B D w (cd D L ts room m :: l)) :
  Calls Tryz.prog 29 #[.pointer (some ⟨L, 0, none⟩), .int .i64 o] w (nm B D l L ts room (fM m o)) := by
 obtain ⟨i0, hi, hz0, hz1, hz2⟩ := info_parts iu
 have HI := Eh (And.intro hi (And.intro hz0 (And.intro hz1 hz2)))
 obtain ⟨q, tv, rv, rs, ht, hr, h1⟩ := ch h
 have HT := Eh ht
 have HR := Eh hr
 have HD := Eh hD
 obtain ⟨c0, c1, c2, c3, _⟩ := bF (h1.blk 0 rfl)
 have vx := Eh (kE o hD hM h1.swap)
 have hlen1 := kY (R := RC) m.q o
 have hleng := ja (R := RC) m.q o
 clear h ht hr h1 hD hi hz0 hz1 hz2
 go_enter Tryz.func29, Tryz.ntmps29
 go_upto_region 4 with (go_at_call 65; refine vx.out.mono ?_; rintro e1 w1 ⟨v1, rfl, hs1⟩; have uX := Eh hs1; clear hs1 vx c0 c1 c2 c3)
 have hs2 : Sat B D w1 (cd D L ts room ⟨(bu RC m.q o).1, m.why⟩ :: cj v1 (bu RC m.q o).2 :: l) := bQ (m := ⟨(bu RC m.q o).1, m.why⟩) HT.out HR.out (((uX.out.front 1 rfl).front 3 rfl).front 2 rfl |>.front 3 rfl)
 have AF := Eh (ld o (fun _ => true) (enters_of Tryz.func66 (by kernel_rfl) rfl) (endF (B := B) (D := D) (l := cj v1 (bu RC m.q o).2 :: l)) hs2)
 clear hs2 uX HT HR
 go_upto_region 5 with (go_at_call 52; refine AF.out.mono ?_; rintro e3 w3 ⟨rfl, hs3⟩; have uY := Eh hs3; clear hs3 AF)
 obtain ⟨q4, tv4, rv4, rs4, ht4, hr4, h4⟩ := ch uY.out
 have DN := Eh ht4
 have DO := Eh hr4
 obtain ⟨c0, c1, c2, c3, _⟩ := bF (h4.blk 0 rfl)
 have wA := Eh (Clear_C o HD.out (Nat.le_trans hlen1 hM) h4.swap)
 have hlen2 := kh (R := RC) (bu RC m.q o).1 (ofE o)
 obtain ⟨Q1, hQ1⟩ : ∃ Q1, Q1 = bu RC m.q o := ⟨_, rfl⟩
 have yx := Eh hQ1
 rw [← hQ1] at wA uY hlen2 hlen1 hleng
 clear ht4 hr4 h4 uY hQ1
 go_wp2_with (first
  | (go_at_call 67; refine wA.out.mono ?_; rintro e5 w5 ⟨v5, rfl, hs5⟩; obtain ⟨va, vc, rfl⟩ := (hs5.front 1 rfl).own_shape; have uZ := Eh (show Sat B D w5 (aI 3 1 v1 Q1.2.length (Q1.2.map (Value.int .i64)) :: aI 3 1 (.slice va (aY RC Q1.1 (ofE o)).2.length vc) (aY RC Q1.1 (ofE o)).2.length ((aY RC Q1.1 (ofE o)).2.map (Value.int .i64)) :: bZ D q4 (aY RC Q1.1 (ofE o)).1 :: lkb L q4 tv4 room rv4 :: ou rv4 rs4 :: l) from (hs5.front 1 rfl).front 4 rfl); have vk := Eh (uZ.out.own 1 rfl).rd; clear hs5 wA c0 c1 c2 c3)
  | (at_builtin; refine au _ rfl _ _ 42 rfl 3 i0 _ 1 8 Tryz.underlying42 HI.out.1 HI.out.2.1 HI.out.2.2.1 HI.out.2.2.2 rfl _ Q1.2.length _ rfl uZ.out _ (aY RC Q1.1 (ofE o)).2.length _ rfl vk.out (by intro u hu; obtain ⟨x, _, rfl⟩ := List.mem_map.1 hu; rfl) (by unfold maxLen; omega) (by omega) ?_; intro v6 w6 hs6 h6; have vi := Eh hs6; clear hs6 h6 uZ vk))
 go_ret
 refine ⟨_, D, rfl, PH.le.refl _, ?_⟩
 have h7 : Sat B D w6 (lkb L q4 tv4 room rv4 :: bZ D q4 (aY RC Q1.1 (ofE o)).1 :: ou rv4 rs4 :: aI 3 1 v6 (Q1.2.length + (aY RC Q1.1 (ofE o)).2.length) (Q1.2.map (Value.int .i64) ++ (aY RC Q1.1 (ofE o)).2.map (Value.int .i64)) :: l) := (((vi.out.front 1 rfl).drop.front 3 rfl).front 2 rfl |>.front 3 rfl)
 rw [← List.map_append, ← List.length_append] at h7
 have h8 := bQ (m := ⟨(aY RC Q1.1 (ofE o)).1, bI m.why o (fun _ => true)⟩) DN.out DO.out h7
 have HE := show fM m o = (⟨(aY RC Q1.1 (ofE o)).1, bI m.why o (fun _ => true)⟩, Q1.2 ++ (aY RC Q1.1 (ofE o)).2) by unfold fM; rw [← yx.out]
 rw [HE]
 exact h8
end
theorem leaveF {B : World} {D : PH} {l : List HP} {b : Nat} {z : ClmE} (hz : ClOk D z) (i : Nat) (hi : l[i]? = some (blk b z.cells.toArray tCl)) :
  gW B D l 73 #[.pointer (some ⟨b, 0, none⟩)] (fun c => RC.same c z.c) := by
 intro x hx W X hX
 have h2 := hX.blk (X.length + i) (by rw [List.getElem?_append_right (by omega), Nat.add_sub_cancel_left, hi])
 obtain ⟨W1, hW1, hk1, hbx, hb1⟩ := cm h2 x.cells.toArray tCl
 have uW := Eh hW1
 have vd := Eh hk1
 have vG := Eh (az (ak hbx))
 have vV := Eh (az (ak hb1))
 have vN := Eh (fy ((hx.rd hX).kept hk1) ((hz.rd hX).kept hk1))
 clear h2 hX hW1 hk1 hbx hb1
 show Calls Tryz.prog 73 #[.agg x.cells.toArray, .pointer (some ⟨b, 0, none⟩)] W _
 show Calls _ _ _ W fun e W' => e = .returned (.bool (RC.same x.c z.c)) ∧ _
 generalize RC.same x.c z.c = rr at *
 go_enter Tryz.func73, Tryz.ntmps73
 go_upto_region 1 with fail
 rw [← uW.out]
 clear uW
 generalize W.heap.size = bx at vG ⊢
 go_wp2_with (first | (refine ai rfl _ _ rfl _ _ rfl _ vG.out ?_) | (refine ai rfl _ _ rfl _ _ rfl _ vV.out ?_) | (go_at_call 74; refine vN.out.mono ?_; rintro e1 w1 ⟨rfl, hk3⟩; have vp := Eh (vd.out.trans hk3 (fun _ h => h.elim)); clear hk3 vN vG vV))
 go_ret
 exact ⟨rfl, vp.out⟩
theorem Leave_L {B w : World} {D : PH} {l : List HP} {L : Nat} {ts : List (List Bool)} {room : Int} {m : LkM} (o : Int) (hD : EnvD D) (hM : m.q.held.length + m.q.waits.length ≤ 1000) (h : Sat B D w (cd D L ts room m :: l)) :
  Calls Tryz.prog 37 #[.pointer (some ⟨L, 0, none⟩), .int .i64 o] w (nm B D l L ts room (et m o)) := by
 obtain ⟨q, tv, rv, rs, ht, hr, h1⟩ := ch h
 have HT := Eh ht
 have HR := Eh hr
 obtain ⟨c0, c1, c2, c3, _⟩ := bF (h1.blk 0 rfl)
 have xg := Eh (m8 o h1.swap)
 have HD := Eh hD
 have HM := Eh hM
 clear h ht hr h1 hD hM
 go_enter Tryz.func37, Tryz.ntmps37
 go_upto_region 4 with (first | (go_at_call 42; refine xg.out.mono ?_; rintro e3 w3 ⟨z, rfl, hzc, hzok, hs3⟩; have yk := Eh hzc; have yH := Eh hzok; have uY := Eh (hs3.alloc z.cells.toArray tCl); clear hzc hzok hs3 xg c0 c1 c2 c3) | (refine ax rfl _ _ _ rfl z.cells _ _ rfl rfl (by kernel_rfl) rfl (ClmE.one z) ?_))
 obtain ⟨W4, hW4, hs4⟩ := Sat.hide uY.out
 rw [← hW4]
 clear hW4 uY
 generalize w3.heap.size = bz at hs4 ⊢
 have vh := Eh (bQ HT.out HR.out (((hs4.front 3 rfl).front 2 rfl).front 3 rfl))
 clear hs4
 obtain ⟨wb, hwb⟩ : ∃ wb, (aP m.q o).2 = wb := ⟨_, rfl⟩
 rw [hwb]
 have zJ := Eh (show ∀ y : List Rsn, y = (if wb && !fN m o z.c then bI m.why o (fun d => RC.same d z.c) else m.why) → et m o = (⟨(bu RC m.q o).1, y⟩, (bu RC m.q o).2) from fun y hy => by rw [hy, yk.out]; unfold et; rw [hwb])
 clear hwb
 cases wb
 ·have HY := Eh (zJ.out m.why rfl)
  have uZ := Eh (show Sat B D W4 (cd D L ts room ⟨m.q, m.why⟩ :: blk bz z.cells.toArray tCl :: l) from vh.out)
  go_upto_region 6 with fail
  obtain ⟨q6, tv6, rv6, rs6, ht6, hr6, h6⟩ := ch uZ.out
  have z8 := Eh ht6
  have zm := Eh hr6
  obtain ⟨c0, c1, c2, c3, _⟩ := bF (h6.blk 0 rfl)
  have vx := Eh (kE o HD.out HM.out h6.swap)
  clear ht6 hr6 h6 uZ
  go_wp2_with (go_at_call 65; refine vx.out.mono ?_; rintro e7 w7 ⟨v7, rfl, hs7⟩; have vn := Eh hs7; clear hs7 vx c0 c1 c2 c3)
  go_ret
  rw [HY.out]
  have h9 := bQ (m := ⟨(bu RC m.q o).1, m.why⟩) z8.out zm.out (((vn.out.front 3 rfl).front 1 rfl).front 3 rfl)
  exact ⟨_, D, rfl, PH.le.refl _, h9.rm2⟩
 have wR := Eh (has_W o z (by have := HM.out; omega) yH.out vh.out)
 have HL := Eh (az (ak (vh.out.blk 1 rfl)))
 cases hh : fN m o z.c
 rotate_left
 ·have HY := Eh (zJ.out m.why (by rw [hh]; rfl))
  rw [hh] at wR
  clear hh
  go_upto_region 6 with (first | (refine bW rfl _ _ rfl _ _ rfl _ HL.out ?_) | (go_at_call 43; refine wR.out.mono ?_; rintro e5 w5 ⟨rfl, hs5⟩; have uZ := Eh (show Sat B D w5 (cd D L ts room ⟨m.q, m.why⟩ :: blk bz z.cells.toArray tCl :: l) from hs5); clear hs5 wR HL vh))
  obtain ⟨q6, tv6, rv6, rs6, ht6, hr6, h6⟩ := ch uZ.out
  have z8 := Eh ht6
  have zm := Eh hr6
  obtain ⟨c0, c1, c2, c3, _⟩ := bF (h6.blk 0 rfl)
  have vx := Eh (kE o HD.out HM.out h6.swap)
  clear ht6 hr6 h6 uZ
  go_wp2_with (go_at_call 65; refine vx.out.mono ?_; rintro e7 w7 ⟨v7, rfl, hs7⟩; have vn := Eh hs7; clear hs7 vx c0 c1 c2 c3)
  go_ret
  rw [HY.out]
  have h9 := bQ (m := ⟨(bu RC m.q o).1, m.why⟩) z8.out zm.out (((vn.out.front 3 rfl).front 1 rfl).front 3 rfl)
  exact ⟨_, D, rfl, PH.le.refl _, h9.rm2⟩
 ·have HY := Eh (zJ.out (bI m.why o (fun d => RC.same d z.c)) (by rw [hh]; rfl))
  rw [hh] at wR
  clear hh
  go_upto_region 5 with (first | (refine bW rfl _ _ rfl _ _ rfl _ HL.out ?_) | (go_at_call 43; refine wR.out.mono ?_; rintro e5 w5 ⟨rfl, hs5⟩; have AF := Eh (ld o (fun d => RC.same d z.c) (enters_of Tryz.func73 (by kernel_rfl) rfl) (leaveF (B := B) yH.out (b := bz) (l := blk bz z.cells.toArray tCl :: l) 0 rfl) hs5); clear hs5 wR HL vh))
  go_upto_region 6 with (go_at_call 52; refine AF.out.mono ?_; rintro e6 w6 ⟨rfl, hs6⟩; have uZ := Eh hs6; clear hs6 AF)
  obtain ⟨q6, tv6, rv6, rs6, ht6, hr6, h6⟩ := ch uZ.out
  have z8 := Eh ht6
  have zm := Eh hr6
  obtain ⟨c0, c1, c2, c3, _⟩ := bF (h6.blk 0 rfl)
  have vx := Eh (kE o HD.out HM.out h6.swap)
  clear ht6 hr6 h6 uZ
  go_wp2_with (go_at_call 65; refine vx.out.mono ?_; rintro e7 w7 ⟨v7, rfl, hs7⟩; have vn := Eh hs7; clear hs7 vx c0 c1 c2 c3)
  go_ret
  rw [HY.out]
  have h9 := bQ (m := ⟨(bu RC m.q o).1, bI m.why o (fun d => RC.same d z.c)⟩) z8.out zm.out (((vn.out.front 3 rfl).front 1 rfl).front 3 rfl)
  exact ⟨_, D, rfl, PH.le.refl _, h9.rm2⟩
end Go.Proofs.YtgljdkjepdknnaaGreatDoor
