/- Ending what is held to the statement's end, by a cursor, to the end; ending to wait. -/
import Derived.Test.YtgljdkjepdknnaaGreatDoorJ34
namespace Go.Proofs.YtgljdkjepdknnaaGreatDoor
open Go.ChangeShapes Go.WideShapes Go.ChangeAt Go.RowKit
set_option maxRecDepth 100000
set_option linter.unusedSimpArgs false

theorem leaveQ_len {C : Type} {R : Rul C} (q : Qm C) (o : Int) : (leaveQ R q o).1.held.length + (leaveQ R q o).1.waits.length ≤ q.held.length + q.waits.length := by
  have h1 := moved_le (R := R) ⟨q.held, q.waits.filter (fun e => !ofE o e)⟩
  have h2 := List.length_filter_le (fun e => !ofE o e) q.waits
  unfold leaveQ
  exact Nat.le_trans h1 (by dsimp only; omega)
theorem leaveQ_given {C : Type} {R : Rul C} (q : Qm C) (o : Int) : (leaveQ R q o).2.length ≤ q.waits.length := by
  have h1 := moved_len (R := R) ⟨q.held, q.waits.filter (fun e => !ofE o e)⟩
  have h2 := List.length_filter_le (fun e => !ofE o e) q.waits
  unfold leaveQ
  dsimp only at h1 h2
  omega
theorem dropQ_given {C : Type} {R : Rul C} (q : Qm C) (g : Ent C → Bool) : (dropQ R q g).2.length ≤ q.waits.length := by
  have h1 := drop_len (R := R) q g
  omega
/-- what ending comes to: the locks behind it, and who is given something -/
def EndedL (B : World) (D : PH) (l : List HP) (L : Nat) (ts : List (List Bool)) (room : Int) (R : LkM × List Int) (e : Ending) (w' : World) : Prop := ∃ v D', e = .returned v ∧ PH.le D D' ∧ Sat B D' w' (lksC D' L ts room R.1 :: intsP v R.2 :: l)
section
variable {B w : World} {D : PH} {l : List HP} {L : Nat} {ts : List (List Bool)} {room : Int} {m : LkM}
set_option maxHeartbeats 2000000 in
theorem EndShort_L (o : Int) (hD : EnvD D) (hM : m.q.held.length + m.q.waits.length ≤ 1000) (hW : m.why.length ≤ 100000) (h : Sat B D w (lksC D L ts room m :: l)) :
    Calls Tryz.prog 16 #[.pointer (some ⟨L, 0, none⟩), .int .i64 o] w (EndedL B D l L ts room (overK m o 1)) := by
  have HOV := Lib.hid (over_W o 1 hD hM hW h)
  have HB := Lib.hid (bit_ok (w := w) 1 0)
  clear h hD
  go_enter Tryz.func16, Tryz.ntmps16
  go_wp2_with (first | (go_at_call 41; refine HB.out.mono ?_; rintro e1 w1 ⟨rfl, rfl⟩; clear HB; rw [show bitK 1 0 = 1 from rfl]) | (go_at_call 48; refine HOV.out.mono ?_; rintro e2 w2 ⟨v2, D2, rfl, hle2, hs2⟩; have HS2 := Lib.hid hs2; have HLE2 := Lib.hid hle2; clear hs2 hle2 HOV))
  go_ret
  exact ⟨_, D2, rfl, HLE2.out, HS2.out⟩
set_option maxHeartbeats 2000000 in
theorem EndHand_L (o hand : Int) (hD : EnvD D) (hM : m.q.held.length + m.q.waits.length ≤ 1000) (hW : m.why.length ≤ 100000) (h : Sat B D w (lksC D L ts room m :: l)) :
    Calls Tryz.prog 15 #[.pointer (some ⟨L, 0, none⟩), .int .i64 o, .int .i64 hand] w (EndedL B D l L ts room (overK m o (bitK 2 hand))) := by
  have HOV := Lib.hid (over_W o (bitK 2 hand) hD hM hW h)
  have HB := Lib.hid (bit_ok (w := w) 2 hand)
  clear h hD
  obtain ⟨bb, hbb⟩ : ∃ bb, bitK 2 hand = bb := ⟨_, rfl⟩
  rw [hbb] at HOV HB ⊢
  clear hbb
  go_enter Tryz.func15, Tryz.ntmps15
  go_wp2_with (first | (go_at_call 41; refine HB.out.mono ?_; rintro e1 w1 ⟨rfl, rfl⟩; clear HB) | (go_at_call 48; refine HOV.out.mono ?_; rintro e2 w2 ⟨v2, D2, rfl, hle2, hs2⟩; have HS2 := Lib.hid hs2; have HLE2 := Lib.hid hle2; clear hs2 hle2 HOV))
  go_ret
  exact ⟨_, D2, rfl, HLE2.out, HS2.out⟩
theorem endF {B : World} {D : PH} {l : List HP} : PredCl B D l 66 #[] (fun _ => true) := by
  intro x hx W X hX
  have HK1 := Lib.hid (show Kept (fun _ => False) W (W.alloc (.cells x.cells.toArray tCl)) from (Kept.refl _ _).alloc _)
  clear hX hx
  show Calls Tryz.prog 66 #[.agg x.cells.toArray] W _
  go_enter Tryz.func66, Tryz.ntmps66
  go_wp2_with fail
  go_ret
  exact ⟨rfl, HK1.out⟩
set_option maxHeartbeats 4000000 in
theorem End_L (o : Int) (hD : EnvD D) (hM : m.q.held.length + m.q.waits.length ≤ 1000) (h : Sat B D w (lksC D L ts room m :: l)) :
    Calls Tryz.prog 29 #[.pointer (some ⟨L, 0, none⟩), .int .i64 o] w (EndedL B D l L ts room (endK m o)) := by
  obtain ⟨i0, hi, hz0, hz1, hz2⟩ := info_parts infoInt
  have HI := Lib.hid (And.intro hi (And.intro hz0 (And.intro hz1 hz2)))
  obtain ⟨q, tv, rv, rs, ht, hr, h1⟩ := lksOpen h
  have HT := Lib.hid ht
  have HR := Lib.hid hr
  have HD := Lib.hid hD
  obtain ⟨c0, c1, c2, c3, _⟩ := cells4 (h1.blk 0 rfl)
  have HLV := Lib.hid (Leave_C o hD hM h1.swap)
  have hlen1 := leaveQ_len (R := RC) m.q o
  have hleng := leaveQ_given (R := RC) m.q o
  clear h ht hr h1 hD hi hz0 hz1 hz2
  go_enter Tryz.func29, Tryz.ntmps29
  go_upto_region 4 with (go_at_call 65; refine HLV.out.mono ?_; rintro e1 w1 ⟨v1, rfl, hs1⟩; have HS1 := Lib.hid hs1; clear hs1 HLV c0 c1 c2 c3)
  have hs2 : Sat B D w1 (lksC D L ts room ⟨(leaveQ RC m.q o).1, m.why⟩ :: intsP v1 (leaveQ RC m.q o).2 :: l) := lksShut (m := ⟨(leaveQ RC m.q o).1, m.why⟩) HT.out HR.out (((HS1.out.front 1 rfl).front 3 rfl).front 2 rfl |>.front 3 rfl)
  have HFG := Lib.hid (forget_W o (fun _ => true) (enters_of Tryz.func66 (by kernel_rfl) rfl) (endF (B := B) (D := D) (l := intsP v1 (leaveQ RC m.q o).2 :: l)) hs2)
  clear hs2 HS1 HT HR
  go_upto_region 5 with (go_at_call 52; refine HFG.out.mono ?_; rintro e3 w3 ⟨rfl, hs3⟩; have HS3 := Lib.hid hs3; clear hs3 HFG)
  obtain ⟨q4, tv4, rv4, rs4, ht4, hr4, h4⟩ := lksOpen HS3.out
  have HT4 := Lib.hid ht4
  have HR4 := Lib.hid hr4
  obtain ⟨c0, c1, c2, c3, _⟩ := cells4 (h4.blk 0 rfl)
  have HCL := Lib.hid (Clear_C o HD.out (Nat.le_trans hlen1 hM) h4.swap)
  have hlen2 := dropQ_given (R := RC) (leaveQ RC m.q o).1 (ofE o)
  obtain ⟨Q1, hQ1⟩ : ∃ Q1, Q1 = leaveQ RC m.q o := ⟨_, rfl⟩
  have HQ1 := Lib.hid hQ1
  rw [← hQ1] at HCL HS3 hlen2 hlen1 hleng
  clear ht4 hr4 h4 HS3 hQ1
  go_wp2_with (first
    | (go_at_call 67; refine HCL.out.mono ?_; rintro e5 w5 ⟨v5, rfl, hs5⟩; obtain ⟨va, vc, rfl⟩ := (hs5.front 1 rfl).own_shape; have HS5 := Lib.hid (show Sat B D w5 (ownS 3 1 v1 Q1.2.length (Q1.2.map (Value.int .i64)) :: ownS 3 1 (.slice va (dropQ RC Q1.1 (ofE o)).2.length vc) (dropQ RC Q1.1 (ofE o)).2.length ((dropQ RC Q1.1 (ofE o)).2.map (Value.int .i64)) :: queC D q4 (dropQ RC Q1.1 (ofE o)).1 :: lkb L q4 tv4 room rv4 :: rsnsW rv4 rs4 :: l) from (hs5.front 1 rfl).front 4 rfl); have HRD := Lib.hid (HS5.out.own 1 rfl).rd; clear hs5 HCL c0 c1 c2 c3)
    | (at_builtin; refine wpList_append_Sat _ rfl _ _ 42 rfl 3 i0 _ 1 8 Tryz.underlying42 HI.out.1 HI.out.2.1 HI.out.2.2.1 HI.out.2.2.2 rfl _ Q1.2.length _ rfl HS5.out _ (dropQ RC Q1.1 (ofE o)).2.length _ rfl HRD.out (by intro u hu; obtain ⟨x, _, rfl⟩ := List.mem_map.1 hu; rfl) (by unfold maxLen; omega) (by omega) ?_; intro v6 w6 hs6 h6; have HS6 := Lib.hid hs6; clear hs6 h6 HS5 HRD))
  go_ret
  refine ⟨_, D, rfl, PH.le.refl _, ?_⟩
  have h7 : Sat B D w6 (lkb L q4 tv4 room rv4 :: queC D q4 (dropQ RC Q1.1 (ofE o)).1 :: rsnsW rv4 rs4 :: ownS 3 1 v6 (Q1.2.length + (dropQ RC Q1.1 (ofE o)).2.length) (Q1.2.map (Value.int .i64) ++ (dropQ RC Q1.1 (ofE o)).2.map (Value.int .i64)) :: l) := (((HS6.out.front 1 rfl).drop.front 3 rfl).front 2 rfl |>.front 3 rfl)
  rw [← List.map_append, ← List.length_append] at h7
  have h8 := lksShut (m := ⟨(dropQ RC Q1.1 (ofE o)).1, forgetR m.why o (fun _ => true)⟩) HT4.out HR4.out h7
  have HE := show endK m o = (⟨(dropQ RC Q1.1 (ofE o)).1, forgetR m.why o (fun _ => true)⟩, Q1.2 ++ (dropQ RC Q1.1 (ofE o)).2) by unfold endK; rw [← HQ1.out]
  rw [HE]
  exact h8
end
end Go.Proofs.YtgljdkjepdknnaaGreatDoor
