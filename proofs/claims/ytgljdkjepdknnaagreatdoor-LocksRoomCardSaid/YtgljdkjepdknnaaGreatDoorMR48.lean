/- Joined texts: An act over locks and over the document's, as data; how small what they hold is. An act over locks and over the document's (ratlinelaw11.done), but Escalate. (printed by genlkdone.py) -/
import Derived.Test.YtgljdkjepdknnaaGreatDoorMR47
import Derived.Test.YtgljdkjepdknnaaGreatDoorMR26
import Derived.Test.YtgljdkjepdknnaaGreatDoorMR19
import Derived.Test.YtgljdkjepdknnaaGreatDoorMR34
import Derived.Test.YtgljdkjepdknnaaGreatDoorMR33
import Derived.Test.YtgljdkjepdknnaaGreatDoorMR35
import Derived.Test.YtgljdkjepdknnaaGreatDoorMR32
/- An act over locks and over the document's, as data; how small what they hold is. -/
namespace Go.Proofs.YtgljdkjepdknnaaGreatDoor
open Go.ChangeShapes Go.WideShapes Go.ChangeAt Go.RowKit
set_option linter.unusedSimpArgs false

theorem flatMap_le3 {α β : Type} {f : α → List β} {n : Nat} : ∀ {l : List α}, (∀ x ∈ l, 3 * (f x).length + 1 ≤ n) → 3 * (l.flatMap f).length + l.length ≤ l.length * n
 | [], _ => by simp
 | x :: l, h => by
  have h1 := flatMap_le3 (l := l) fun y hy => h y (List.mem_cons_of_mem _ hy)
  have h2 := h x (by simp)
  rw [List.flatMap_cons, List.length_append, List.length_cons, Nat.add_mul, Nat.one_mul]
  omega
theorem flat_nodes : ∀ (p : PredT) (d : Nat), p.flat d = true → 3 * p.nodes.length + 1 ≤ 4 ^ (5 - d) := by
 refine PredT.ind fun op col v w l ih d h => ?_
 rw [PredT.flat_eq, Bool.and_eq_true, Bool.and_eq_true, decide_eq_true_eq, decide_eq_true_eq] at h
 obtain ⟨⟨h1, h2⟩, h3⟩ := h
 rw [nodes_eq, List.length_cons]
 have hx := flatMap_le3 (f := PredT.nodes) (n := 4 ^ (4 - d)) (l := l) fun q hq => by
  have := ih q hq (d + 1) (List.all_eq_true.1 h3 q hq)
  rwa [show 5 - (d + 1) = 4 - d by omega] at this
 rw [show 5 - d = (4 - d) + 1 by omega, Nat.pow_succ]
 have hp : 0 < 4 ^ (4 - d) := by first | exact Nat.pow_pos (by omega) | exact Nat.pos_pow_of_pos _ (by omega) | exact Nat.pos_pow (by omega)
 generalize 4 ^ (4 - d) = P at *
 generalize (l.flatMap PredT.nodes).length = S at *
 have h5 : l.length = 0 ∨ l.length = 1 ∨ l.length = 2 ∨ l.length = 3 ∨ l.length = 4 := by omega
 rcases h5 with h5 | h5 | h5 | h5 | h5 <;> rw [h5] at hx <;> omega
theorem few_nodes {c : Clm} (h : fewB c = true) : c.pred.nodes.length ≤ 1000000 := by
 unfold fewB at h
 rw [Bool.and_eq_true] at h
 have := flat_nodes c.pred 0 h.2
 omega
noncomputable def handD (d : DocM) (o hand : Int) : DocM × List Int := if 1 ≤ hand ∧ hand ≤ 2 then overD d o 2 hand else overD d o 0 0
/-- an act but Escalate: locks, the document's, whether they answer the same -/
noncomputable def stepL (ts : List (List Bool)) (room : Int) (m : LkM) (d : DocM) (k o : Int) (c : Clm) (dur hand : Int) : LkM × DocM × Bool :=
 if k = 10 ∨ k = 11 then ((overK m o 1).1, (overD d o 1 0).1, decide ((overK m o 1).2 = (overD d o 1 0).2))
 else if k = 12 then ((overK m o (bitK 2 hand)).1, (handD d o hand).1, decide ((overK m o (bitK 2 hand)).2 = (handD d o hand).2))
 else if k = 13 then ((endK m o).1, (endD d o).1, decide ((endK m o).2 = (endD d o).2))
 else if k = 14 then ((leaveK m o).1, (leaveD d o).1, decide ((leaveK m o).2 = (leaveD d o).2))
 else ((askK m room (mayK ts c) o c dur hand).1, (askD d o c dur hand).1, decide ((askK m room (mayK ts c) o c dur hand).2.1 = (askD d o c dur hand).2.1) && decide ((askK m room (mayK ts c) o c dur hand).2.2 = (askD d o c dur hand).2.2))
/-- what n acts keep -/
structure LkOk (n : Nat) (m : LkM) (d : DocM) : Prop where
 q : ScOk n m.q
 w : m.why.length ≤ n
 dq : ScOk n d.q
 dr : d.r.length ≤ n
theorem LkOk.mono {n k : Nat} {m : LkM} {d : DocM} (h : LkOk n m d) (hk : n ≤ k) : LkOk k m d := ⟨h.q.mono hk, Nat.le_trans h.w hk, h.dq.mono hk, Nat.le_trans h.dr hk⟩
theorem noteR_len (l : List Rsn) (o : Int) (c : Clm) (w : Int) : (noteR l o c w).length ≤ l.length + 1 := by
 unfold noteR
 split
 ·split
  ·rw [List.length_set]; omega
  ·omega
 ·rw [List.length_append]; simp
theorem overR_len (l : List Rsn) (o w : Int) : (overR l o w).length ≤ l.length := by
 unfold overR
 exact Nat.le_trans (List.length_filter_le _ _) (by rw [List.length_map]; exact Nat.le_refl _)
theorem forgetR_len (l : List Rsn) (o : Int) (p : Clm → Bool) : (forgetR l o p).length ≤ l.length := List.length_filter_le _ _
theorem overE_len (l : List Rea) (o dur hand : Int) : (overE l o dur hand).length ≤ l.length := List.length_filter_le _ _
theorem withoutE_len (l : List Rea) (o : Int) (c : Clm) : (withoutE l o c).length ≤ l.length := List.length_filter_le _ _
theorem endE_len (l : List Rea) (o : Int) : (endE l o).length ≤ l.length := List.length_filter_le _ _
theorem overK_lk {n : Nat} {m : LkM} (o w : Int) (h : ScOk n m.q) (hw : m.why.length ≤ n) : ScOk n (overK m o w).1.q ∧ (overK m o w).1.why.length ≤ n :=
 ⟨drop_sc h _, Nat.le_trans (overR_len _ _ _) hw⟩
theorem overD_lk {n : Nat} {d : DocM} (o dur hand : Int) (h : ScOk n d.q) (hw : d.r.length ≤ n) : ScOk n (overD d o dur hand).1.q ∧ (overD d o dur hand).1.r.length ≤ n :=
 ⟨drop_sc h _, Nat.le_trans (overE_len _ _ _ _) hw⟩
theorem stepL_ok {n : Nat} {ts : List (List Bool)} {room : Int} {m : LkM} {d : DocM} (h : LkOk n m d) (k : Int) {o : Int} (ho : 0 ≤ o ∧ o ≤ 7) {c : Clm} (hc : ClmFit c) (hf : fewB c = true) (dur hand : Int) :
  LkOk (n + 1) (stepL ts room m d k o c dur hand).1 (stepL ts room m d k o c dur hand).2.1 := by
 unfold stepL
 split
 ·exact LkOk.mono (n := n) ⟨(overK_lk o 1 h.q h.w).1, (overK_lk o 1 h.q h.w).2, (overD_lk o 1 0 h.dq h.dr).1, (overD_lk o 1 0 h.dq h.dr).2⟩ (Nat.le_succ n)
 split
 ·refine LkOk.mono (n := n) ⟨(overK_lk o _ h.q h.w).1, (overK_lk o _ h.q h.w).2, ?_, ?_⟩ (Nat.le_succ n)
  ·dsimp only; unfold handD; split
   ·exact (overD_lk o 2 hand h.dq h.dr).1
   ·exact (overD_lk o 0 0 h.dq h.dr).1
  ·dsimp only; unfold handD; split
   ·exact (overD_lk o 2 hand h.dq h.dr).2
   ·exact (overD_lk o 0 0 h.dq h.dr).2
 split
 ·exact LkOk.mono (n := n) ⟨drop_sc (leave_sc h.q o) _, Nat.le_trans (show (endK m o).1.why.length ≤ m.why.length from by unfold endK; dsimp only; exact forgetR_len m.why o _) h.w, drop_sc (leave_sc h.dq o) _, Nat.le_trans (show (endD d o).1.r.length ≤ d.r.length from by unfold endD; dsimp only; exact endE_len d.r o) h.dr⟩ (Nat.le_succ n)
 split
 ·refine LkOk.mono (n := n) ⟨leave_sc h.q o, ?_, leave_sc h.dq o, ?_⟩ (Nat.le_succ n)
  ·show (leaveK m o).1.why.length ≤ n
   unfold leaveK
   dsimp only
   split
   ·exact Nat.le_trans (forgetR_len _ _ _) h.w
   ·exact h.w
  ·show (leaveD d o).1.r.length ≤ n
   unfold leaveD
   dsimp only
   split
   ·exact Nat.le_trans (withoutE_len _ _ _) h.dr
   ·exact h.dr
 ·have h1 : ScOk (n + 1) (askK m room (mayK ts c) o c dur hand).1.q ∧ (askK m room (mayK ts c) o c dur hand).1.why.length ≤ n + 1 := by
   unfold askK
   split
   ·exact ⟨h.q.mono (Nat.le_succ n), Nat.le_trans h.w (Nat.le_succ n)⟩
   split
   ·exact ⟨h.q.mono (Nat.le_succ n), Nat.le_trans h.w (Nat.le_succ n)⟩
   split
   ·exact ⟨h.q.mono (Nat.le_succ n), Nat.le_trans h.w (Nat.le_succ n)⟩
   ·exact ⟨ask_sc h.q ho hc hf true, Nat.le_trans (noteR_len _ _ _ _) (by have := h.w; omega)⟩
  have h2 : ScOk (n + 1) (askD d o c dur hand).1.q ∧ (askD d o c dur hand).1.r.length ≤ n + 1 := by
   unfold askD
   split
   ·exact ⟨h.dq.mono (Nat.le_succ n), Nat.le_trans h.dr (Nat.le_succ n)⟩
   split
   ·exact ⟨h.dq.mono (Nat.le_succ n), Nat.le_trans h.dr (Nat.le_succ n)⟩
   split
   ·exact ⟨h.dq.mono (Nat.le_succ n), Nat.le_trans h.dr (Nat.le_succ n)⟩
   ·exact ⟨ask_sc h.dq ho hc hf true, by show (d.r ++ [_]).length ≤ n + 1; rw [List.length_append]; have := h.dr; simp; omega⟩
  exact ⟨h1.1, h1.2, h2.1, h2.2⟩
end Go.Proofs.YtgljdkjepdknnaaGreatDoor

/- An act over locks and over the document's (ratlinelaw11.done), but Escalate. (printed by genlkdone.py) -/
namespace Go.Proofs.YtgljdkjepdknnaaGreatDoor
open Go.ChangeShapes Go.WideShapes Go.ChangeAt Go.RowKit
set_option maxRecDepth 100000
set_option linter.unusedSimpArgs false

theorem and7n (x : Int) : ∃ q : Nat, bits .and .i64 x 7 = (q : Int) ∧ q ≤ 7 := by
 have h : (BitVec.ofInt 64 x &&& BitVec.ofInt 64 7).toNat ≤ 7 := by
  rw [BitVec.toNat_and]
  exact Nat.and_le_right
 have e : bits .and .i64 x 7 = IntKind.i64.wrap ((BitVec.ofInt 64 x &&& BitVec.ofInt 64 7).toNat : Int) := rfl
 exact ⟨_, by rw [e, IntWalk.i64_in _ (by omega)], h⟩
def DoneL (B : World) (D : PH) (l : List HP) (L : Nat) (ts : List (List Bool)) (room : Int) (R : LkM × DocM × Bool) (r : Ending) (w' : World) : Prop := ∃ (v : Value) (D' : PH), r = .returned (.tuple #[v, .bool R.2.2]) ∧ PH.le D D' ∧ DocD D' v R.2.1 ∧ Sat B D' w' (lksC D' L ts room R.1 :: l)
noncomputable def actL (ts : List (List Bool)) (room : Int) (m : LkM) (d : DocM) (a : ActE) : LkM × DocM × Bool := stepL ts room m d (bits .and .i64 a.kind 15) (bits .and .i64 a.owner 7) a.x.c a.dur a.hand
theorem rHand_ok {B w : World} {D : PH} {l : List HP} {v : Value} {d : DocM} (o hand : Int) (hd : DocD D v d) (hM : d.r.length ≤ 1000) (hQ : d.q.held.length + d.q.waits.length ≤ 1000) (s : Sat B D w l) :
  Calls Tryz.prog 58 #[v, .int .i64 o, .int .i64 hand] w (DocEnd B D l (handD d o hand).1 (handD d o hand).2) := by
 unfold handD
 split
 ·exact rEndHand_ok o hand (by omega) (by omega) hd hM hQ s
 ·exact rEndHand_no o hand (by omega) hd hM hQ s
set_option maxHeartbeats 32000000 in
theorem done_L {B w : World} {D : PH} {l : List HP} {L n : Nat} {ts : List (List Bool)} {room : Int} {v : Value} {m : LkM} {d : DocM} (a : ActE) (hE : EnvD D) (hd : DocD D v d) (hok : LkOk n m d) (hn : n ≤ 900) (ha : ClOk D a.x) (hf : ClmFit a.x.c) (hfew : fewB a.x.c = true) (h15 : bits .and .i64 a.kind 15 ≠ 15) (s : Sat B D w (lksC D L ts room m :: l)) :
  Calls Tryz.prog 24 #[.pointer (some ⟨L, 0, none⟩), v, .agg a.cells.toArray] w (DoneL B D l L ts room (actL ts room m d a)) := by
 obtain ⟨y0, y1, y2, y3, y4, rfl, h1⟩ := doc5 hd
 obtain ⟨W1, hW1, hs1⟩ := three_new s #[y0, y1, y2, y3, y4] a.cells.toArray zLkV tLkV tAct tLkV
 obtain ⟨on, hon, ho7⟩ := and7n a.owner
 obtain ⟨kn, hkn⟩ : ∃ kn, bits .and .i64 a.kind 15 = kn := ⟨_, rfl⟩
 have HDA := Lib.hid (show actL ts room m d a = stepL ts room m d kn on a.x.c a.dur a.hand by unfold actL; rw [hkn, hon])
 have hq1 := hok.q.len
 have hq2 := hok.dq.len
 have HM := Lib.hid (show m.q.held.length + m.q.waits.length ≤ 1000 by omega)
 have HDM := Lib.hid (show d.q.held.length + d.q.waits.length ≤ 1000 by omega)
 have HWY := Lib.hid (show m.why.length ≤ 100000 by have := hok.w; omega)
 have HDR := Lib.hid (show d.r.length ≤ 1000 by have := hok.dr; omega)
 have HSM := Lib.hid (show ClmSm 1000000 a.x.c from (few_sm hfew).mono (by omega))
 have HND := Lib.hid (show a.x.pr.p.nodes.length ≤ 1000000 from few_nodes hfew)
 have HQS := Lib.hid (show ∀ e ∈ m.q.held, ClmSm 1000000 e.c from fun e he => (hok.q.all.1 e he).sm (by omega))
 have HDQ := Lib.hid (show ∀ e ∈ d.q.held, ClmSm 1000000 e.c from fun e he => (hok.dq.all.1 e he).sm (by omega))
 have HOK := Lib.hid hok.dq.ok
 have H1 := Lib.hid h1
 have HE := Lib.hid hE
 have HD := Lib.hid hd
 have HA := Lib.hid ha
 have HF := Lib.hid hf
 have HW1 := Lib.hid hW1
 have HS1 := Lib.hid (hs1.front 3 rfl)
 rw [hkn] at h15
 clear s hs1 hW1 hok hn ha hf hfew hE hd h1 hq1 hq2
 have hk5 : (kn = 10 ∨ kn = 11) ∨ (kn = 12) ∨ (kn = 13) ∨ (kn = 14) ∨ (¬ (kn = 10 ∨ kn = 11 ∨ kn = 12 ∨ kn = 13 ∨ kn = 14)) := by omega
 rcases hk5 with hk | hk | hk | hk | hk
 ·skip
  have HDQ2 := Lib.hid (show stepL ts room m d kn on a.x.c a.dur a.hand = ((overK m on 1).1, (overD d on 1 0).1, decide ((overK m on 1).2 = (overD d on 1 0).2)) by unfold stepL; rw [if_pos hk])
  rcases hk with rfl | rfl
  all_goals
   go_enter Tryz.func24, Tryz.ntmps24
   go_upto_region 1 with fail
   rw [← HW1.out]
   clear HW1
   generalize w.heap.size + 1 + 1 = b3 at *
   generalize w.heap.size + 1 = b2 at *
   generalize w.heap.size = b1 at *
   obtain ⟨x0, x1, x2, x3, x4, x5⟩ := boxAct (HS1.out.blk 2 rfl)
   go_upto_region 5 with fail
   have HP := Lib.hid (EndShort_L (on : Int) HE.out HM.out HWY.out HS1.out)
   clear HS1 hon
   go_upto_region 6 with (go_at_call 16; refine HP.out.mono ?_; rintro e5 w5 ⟨v5, D5, rfl, hle5, hs5⟩; obtain ⟨a5, c5, rfl⟩ := (hs5.front 1 rfl).own_shape; have HLE5 := Lib.hid hle5; have HS5 := Lib.hid hs5; clear hle5 hs5 HP x0 x1 x2 x3 x4 x5)
   obtain ⟨x0, x1, x2, x3, x4, x5⟩ := boxAct (HS5.out.blk 3 rfl)
   have HLV := Lib.hid (loadLkV (HS5.out.blk 2 rfl))
   have HR := Lib.hid (rEndShort_ok (on : Int) (HD.out.mono HLE5.out) HDR.out HDM.out HS5.out)
   go_upto_region 7 with (first | (refine wpList_ld rfl _ _ rfl _ _ rfl [_, _, _, _, _] HLV.out ?_) | (go_at_call 57; refine HR.out.mono ?_; rintro e6 w6 ⟨v6, iv6, D6, rfl, hle6, hd6, hs6⟩; obtain ⟨a6, c6, rfl⟩ := hs6.own_shape; obtain ⟨z0, z1, z2, z3, z4, rfl, hz⟩ := doc5 hd6; have HZ := Lib.hid hz; have HD6 := Lib.hid hd6; have HLE6 := Lib.hid hle6; have HS6 := Lib.hid (hs6.alloc #[z0, z1, z2, z3, z4] tLkV); clear hle6 hs6 hd6 hz HR HLV HS5 x0 x1 x2 x3 x4 x5) | (refine wpList_store_new rfl _ _ _ rfl [z0, z1, z2, z3, z4] _ _ rfl rfl (by kernel_rfl) rfl HZ.out ?_))
   obtain ⟨W7, hW7, hs7⟩ := Sat.hide HS6.out
   rw [← hW7]
   clear hW7 HS6
   generalize w6.heap.size = bn at hs7 ⊢
   have HLN := Lib.hid (loadLkV (w := W7.drew) (hs7.drew.blk 0 rfl))
   obtain ⟨rb, hrb⟩ : ∃ rb, decide ((overK m on 1).2 = (overD d on 1 0).2) = rb := ⟨_, rfl⟩
   have HIN := Lib.hid (Ints_k (hs7.drew.own 3 rfl).rd (hs7.drew.own 1 rfl).rd hrb)
   have HRB := Lib.hid hrb
   have HS7 := Lib.hid hs7.drew
   clear hs7 hrb
   refine wp_region_canon [(0, false, 4), (1, false, 3), (2, false, 3), (3, true, 0), (4, true, 0), (5, false, 999)] (by kernel_rfl) (by kernel_rfl) ?_
   iterate 3 (refine wpCan_read rfl rfl (fun K hK => ?_); (first | ((refine still_ld _ _ rfl _ _ rfl _ HLN.out ?_); go_simp) | go_simp); refine hK _ ?_; clear hK K)
   refine wpCan_eff rfl ?_
   refine wpList_do rfl (fun K hK => ?_)
   go_simp
   refine HIN.out.mono ?_
   rintro e8 w8 ⟨rfl, hk8⟩
   have HS8 := Lib.hid ((HS7.out.kept hk8).front 6 rfl)
   clear hk8 HS7 HIN HLN
   obtain ⟨q0, q1, q2, q3, q4, qf⟩ := cells5v (HS8.out.blk 1 rfl)
   refine hK _ _ ?_
   clear hK K
   refine wpList_nil ?_
   refine And.intro ?_ ?_
   ·go_simp
   refine wpCan_eff rfl ?_
   refine wpList_store_whole rfl _ _ _ rfl tLkV b3 rfl [z0, z1, z2, z3, z4] rfl zLkV HS8.out (by kernel_rfl) rfl HZ.out ?_
   intro w9 hs9
   have HS20 := Lib.hid hs9
   clear hs9 HS8 q0 q1 q2 q3 q4 qf
   refine wpList_nil ?_
   refine And.intro ?_ ?_
   ·go_simp
   iterate 1 (refine wpCan_read rfl rfl (fun K hK => ?_); (first | ((refine still_ld _ _ rfl _ _ rfl _ HLN.out ?_); go_simp) | go_simp); refine hK _ ?_; clear hK K)
   refine wpCan_nil ?_
   go_wp2_with fail
   refine bodyPost_ret (results_c2 rfl _ _ rfl (loadLkV (HS20.out.blk 0 rfl))) rfl ?_
   rw [HDA.out, HDQ2.out]
   dsimp only
   rw [HRB.out]
   refine ⟨_, D6, rfl, HLE5.out.trans HLE6.out, HD6.out, ?_⟩
   exact lks_mono (HS20.out.drop.drop.drop.swap.drop.swap.drop.swap.drop) HLE6.out
 ·skip
  have HDQ2 := Lib.hid (show stepL ts room m d kn on a.x.c a.dur a.hand = ((overK m on (bitK 2 a.hand)).1, (handD d on a.hand).1, decide ((overK m on (bitK 2 a.hand)).2 = (handD d on a.hand).2)) by unfold stepL; rw [if_neg (by omega), if_pos hk])
  subst hk
  go_enter Tryz.func24, Tryz.ntmps24
  go_upto_region 1 with fail
  rw [← HW1.out]
  clear HW1
  generalize w.heap.size + 1 + 1 = b3 at *
  generalize w.heap.size + 1 = b2 at *
  generalize w.heap.size = b1 at *
  obtain ⟨x0, x1, x2, x3, x4, x5⟩ := boxAct (HS1.out.blk 2 rfl)
  go_upto_region 9 with fail
  have HP := Lib.hid (EndHand_L (on : Int) a.hand HE.out HM.out HWY.out HS1.out)
  clear HS1 hon
  go_upto_region 10 with (go_at_call 15; refine HP.out.mono ?_; rintro e5 w5 ⟨v5, D5, rfl, hle5, hs5⟩; obtain ⟨a5, c5, rfl⟩ := (hs5.front 1 rfl).own_shape; have HLE5 := Lib.hid hle5; have HS5 := Lib.hid hs5; clear hle5 hs5 HP x0 x1 x2 x3 x4 x5)
  obtain ⟨x0, x1, x2, x3, x4, x5⟩ := boxAct (HS5.out.blk 3 rfl)
  have HLV := Lib.hid (loadLkV (HS5.out.blk 2 rfl))
  have HR := Lib.hid (rHand_ok (on : Int) a.hand (HD.out.mono HLE5.out) HDR.out HDM.out HS5.out)
  go_upto_region 11 with (first | (refine wpList_ld rfl _ _ rfl _ _ rfl [_, _, _, _, _] HLV.out ?_) | (go_at_call 58; refine HR.out.mono ?_; rintro e6 w6 ⟨v6, iv6, D6, rfl, hle6, hd6, hs6⟩; obtain ⟨a6, c6, rfl⟩ := hs6.own_shape; obtain ⟨z0, z1, z2, z3, z4, rfl, hz⟩ := doc5 hd6; have HZ := Lib.hid hz; have HD6 := Lib.hid hd6; have HLE6 := Lib.hid hle6; have HS6 := Lib.hid (hs6.alloc #[z0, z1, z2, z3, z4] tLkV); clear hle6 hs6 hd6 hz HR HLV HS5 x0 x1 x2 x3 x4 x5) | (refine wpList_store_new rfl _ _ _ rfl [z0, z1, z2, z3, z4] _ _ rfl rfl (by kernel_rfl) rfl HZ.out ?_))
  obtain ⟨W7, hW7, hs7⟩ := Sat.hide HS6.out
  rw [← hW7]
  clear hW7 HS6
  generalize w6.heap.size = bn at hs7 ⊢
  have HLN := Lib.hid (loadLkV (w := W7.drew) (hs7.drew.blk 0 rfl))
  obtain ⟨rb, hrb⟩ : ∃ rb, decide ((overK m on (bitK 2 a.hand)).2 = (handD d on a.hand).2) = rb := ⟨_, rfl⟩
  have HIN := Lib.hid (Ints_k (hs7.drew.own 3 rfl).rd (hs7.drew.own 1 rfl).rd hrb)
  have HRB := Lib.hid hrb
  have HS7 := Lib.hid hs7.drew
  clear hs7 hrb
  refine wp_region_canon [(0, false, 4), (1, false, 3), (2, false, 3), (3, true, 0), (4, true, 0), (5, false, 999)] (by kernel_rfl) (by kernel_rfl) ?_
  iterate 3 (refine wpCan_read rfl rfl (fun K hK => ?_); (first | ((refine still_ld _ _ rfl _ _ rfl _ HLN.out ?_); go_simp) | go_simp); refine hK _ ?_; clear hK K)
  refine wpCan_eff rfl ?_
  refine wpList_do rfl (fun K hK => ?_)
  go_simp
  refine HIN.out.mono ?_
  rintro e8 w8 ⟨rfl, hk8⟩
  have HS8 := Lib.hid ((HS7.out.kept hk8).front 6 rfl)
  clear hk8 HS7 HIN HLN
  obtain ⟨q0, q1, q2, q3, q4, qf⟩ := cells5v (HS8.out.blk 1 rfl)
  refine hK _ _ ?_
  clear hK K
  refine wpList_nil ?_
  refine And.intro ?_ ?_
  ·go_simp
  refine wpCan_eff rfl ?_
  refine wpList_store_whole rfl _ _ _ rfl tLkV b3 rfl [z0, z1, z2, z3, z4] rfl zLkV HS8.out (by kernel_rfl) rfl HZ.out ?_
  intro w9 hs9
  have HS20 := Lib.hid hs9
  clear hs9 HS8 q0 q1 q2 q3 q4 qf
  refine wpList_nil ?_
  refine And.intro ?_ ?_
  ·go_simp
  iterate 1 (refine wpCan_read rfl rfl (fun K hK => ?_); (first | ((refine still_ld _ _ rfl _ _ rfl _ HLN.out ?_); go_simp) | go_simp); refine hK _ ?_; clear hK K)
  refine wpCan_nil ?_
  go_wp2_with fail
  refine bodyPost_ret (results_c2 rfl _ _ rfl (loadLkV (HS20.out.blk 0 rfl))) rfl ?_
  rw [HDA.out, HDQ2.out]
  dsimp only
  rw [HRB.out]
  refine ⟨_, D6, rfl, HLE5.out.trans HLE6.out, HD6.out, ?_⟩
  exact lks_mono (HS20.out.drop.drop.drop.swap.drop.swap.drop.swap.drop) HLE6.out
 ·skip
  have HDQ2 := Lib.hid (show stepL ts room m d kn on a.x.c a.dur a.hand = ((endK m on).1, (endD d on).1, decide ((endK m on).2 = (endD d on).2)) by unfold stepL; rw [if_neg (by omega), if_neg (by omega), if_pos hk])
  subst hk
  go_enter Tryz.func24, Tryz.ntmps24
  go_upto_region 1 with fail
  rw [← HW1.out]
  clear HW1
  generalize w.heap.size + 1 + 1 = b3 at *
  generalize w.heap.size + 1 = b2 at *
  generalize w.heap.size = b1 at *
  obtain ⟨x0, x1, x2, x3, x4, x5⟩ := boxAct (HS1.out.blk 2 rfl)
  go_upto_region 13 with fail
  have HP := Lib.hid (End_L (on : Int) HE.out HM.out HS1.out)
  clear HS1 hon
  go_upto_region 14 with (go_at_call 29; refine HP.out.mono ?_; rintro e5 w5 ⟨v5, D5, rfl, hle5, hs5⟩; obtain ⟨a5, c5, rfl⟩ := (hs5.front 1 rfl).own_shape; have HLE5 := Lib.hid hle5; have HS5 := Lib.hid hs5; clear hle5 hs5 HP x0 x1 x2 x3 x4 x5)
  obtain ⟨x0, x1, x2, x3, x4, x5⟩ := boxAct (HS5.out.blk 3 rfl)
  have HLV := Lib.hid (loadLkV (HS5.out.blk 2 rfl))
  have HR := Lib.hid (rkEnd_ok (on : Int) (HD.out.mono HLE5.out) HDR.out HDM.out HS5.out)
  go_upto_region 15 with (first | (refine wpList_ld rfl _ _ rfl _ _ rfl [_, _, _, _, _] HLV.out ?_) | (go_at_call 59; refine HR.out.mono ?_; rintro e6 w6 ⟨v6, iv6, D6, rfl, hle6, hd6, hs6⟩; obtain ⟨a6, c6, rfl⟩ := hs6.own_shape; obtain ⟨z0, z1, z2, z3, z4, rfl, hz⟩ := doc5 hd6; have HZ := Lib.hid hz; have HD6 := Lib.hid hd6; have HLE6 := Lib.hid hle6; have HS6 := Lib.hid (hs6.alloc #[z0, z1, z2, z3, z4] tLkV); clear hle6 hs6 hd6 hz HR HLV HS5 x0 x1 x2 x3 x4 x5) | (refine wpList_store_new rfl _ _ _ rfl [z0, z1, z2, z3, z4] _ _ rfl rfl (by kernel_rfl) rfl HZ.out ?_))
  obtain ⟨W7, hW7, hs7⟩ := Sat.hide HS6.out
  rw [← hW7]
  clear hW7 HS6
  generalize w6.heap.size = bn at hs7 ⊢
  have HLN := Lib.hid (loadLkV (w := W7.drew) (hs7.drew.blk 0 rfl))
  obtain ⟨rb, hrb⟩ : ∃ rb, decide ((endK m on).2 = (endD d on).2) = rb := ⟨_, rfl⟩
  have HIN := Lib.hid (Ints_k (hs7.drew.own 3 rfl).rd (hs7.drew.own 1 rfl).rd hrb)
  have HRB := Lib.hid hrb
  have HS7 := Lib.hid hs7.drew
  clear hs7 hrb
  refine wp_region_canon [(0, false, 4), (1, false, 3), (2, false, 3), (3, true, 0), (4, true, 0), (5, false, 999)] (by kernel_rfl) (by kernel_rfl) ?_
  iterate 3 (refine wpCan_read rfl rfl (fun K hK => ?_); (first | ((refine still_ld _ _ rfl _ _ rfl _ HLN.out ?_); go_simp) | go_simp); refine hK _ ?_; clear hK K)
  refine wpCan_eff rfl ?_
  refine wpList_do rfl (fun K hK => ?_)
  go_simp
  refine HIN.out.mono ?_
  rintro e8 w8 ⟨rfl, hk8⟩
  have HS8 := Lib.hid ((HS7.out.kept hk8).front 6 rfl)
  clear hk8 HS7 HIN HLN
  obtain ⟨q0, q1, q2, q3, q4, qf⟩ := cells5v (HS8.out.blk 1 rfl)
  refine hK _ _ ?_
  clear hK K
  refine wpList_nil ?_
  refine And.intro ?_ ?_
  ·go_simp
  refine wpCan_eff rfl ?_
  refine wpList_store_whole rfl _ _ _ rfl tLkV b3 rfl [z0, z1, z2, z3, z4] rfl zLkV HS8.out (by kernel_rfl) rfl HZ.out ?_
  intro w9 hs9
  have HS20 := Lib.hid hs9
  clear hs9 HS8 q0 q1 q2 q3 q4 qf
  refine wpList_nil ?_
  refine And.intro ?_ ?_
  ·go_simp
  iterate 1 (refine wpCan_read rfl rfl (fun K hK => ?_); (first | ((refine still_ld _ _ rfl _ _ rfl _ HLN.out ?_); go_simp) | go_simp); refine hK _ ?_; clear hK K)
  refine wpCan_nil ?_
  go_wp2_with fail
  refine bodyPost_ret (results_c2 rfl _ _ rfl (loadLkV (HS20.out.blk 0 rfl))) rfl ?_
  rw [HDA.out, HDQ2.out]
  dsimp only
  rw [HRB.out]
  refine ⟨_, D6, rfl, HLE5.out.trans HLE6.out, HD6.out, ?_⟩
  exact lks_mono (HS20.out.drop.drop.drop.swap.drop.swap.drop.swap.drop) HLE6.out
 ·skip
  have HDQ2 := Lib.hid (show stepL ts room m d kn on a.x.c a.dur a.hand = ((leaveK m on).1, (leaveD d on).1, decide ((leaveK m on).2 = (leaveD d on).2)) by unfold stepL; rw [if_neg (by omega), if_neg (by omega), if_neg (by omega), if_pos hk])
  subst hk
  go_enter Tryz.func24, Tryz.ntmps24
  go_upto_region 1 with fail
  rw [← HW1.out]
  clear HW1
  generalize w.heap.size + 1 + 1 = b3 at *
  generalize w.heap.size + 1 = b2 at *
  generalize w.heap.size = b1 at *
  obtain ⟨x0, x1, x2, x3, x4, x5⟩ := boxAct (HS1.out.blk 2 rfl)
  go_upto_region 17 with fail
  have HP := Lib.hid (Leave_L (on : Int) HE.out HM.out HS1.out)
  clear HS1 hon
  go_upto_region 18 with (go_at_call 37; refine HP.out.mono ?_; rintro e5 w5 ⟨v5, D5, rfl, hle5, hs5⟩; obtain ⟨a5, c5, rfl⟩ := (hs5.front 1 rfl).own_shape; have HLE5 := Lib.hid hle5; have HS5 := Lib.hid hs5; clear hle5 hs5 HP x0 x1 x2 x3 x4 x5)
  obtain ⟨x0, x1, x2, x3, x4, x5⟩ := boxAct (HS5.out.blk 3 rfl)
  have HLV := Lib.hid (loadLkV (HS5.out.blk 2 rfl))
  have HR := Lib.hid (rkLeave_ok (on : Int) (HD.out.mono HLE5.out) HDR.out HDM.out HS5.out)
  go_upto_region 19 with (first | (refine wpList_ld rfl _ _ rfl _ _ rfl [_, _, _, _, _] HLV.out ?_) | (go_at_call 60; refine HR.out.mono ?_; rintro e6 w6 ⟨v6, iv6, D6, rfl, hle6, hd6, hs6⟩; obtain ⟨a6, c6, rfl⟩ := hs6.own_shape; obtain ⟨z0, z1, z2, z3, z4, rfl, hz⟩ := doc5 hd6; have HZ := Lib.hid hz; have HD6 := Lib.hid hd6; have HLE6 := Lib.hid hle6; have HS6 := Lib.hid (hs6.alloc #[z0, z1, z2, z3, z4] tLkV); clear hle6 hs6 hd6 hz HR HLV HS5 x0 x1 x2 x3 x4 x5) | (refine wpList_store_new rfl _ _ _ rfl [z0, z1, z2, z3, z4] _ _ rfl rfl (by kernel_rfl) rfl HZ.out ?_))
  obtain ⟨W7, hW7, hs7⟩ := Sat.hide HS6.out
  rw [← hW7]
  clear hW7 HS6
  generalize w6.heap.size = bn at hs7 ⊢
  have HLN := Lib.hid (loadLkV (w := W7.drew) (hs7.drew.blk 0 rfl))
  obtain ⟨rb, hrb⟩ : ∃ rb, decide ((leaveK m on).2 = (leaveD d on).2) = rb := ⟨_, rfl⟩
  have HIN := Lib.hid (Ints_k (hs7.drew.own 3 rfl).rd (hs7.drew.own 1 rfl).rd hrb)
  have HRB := Lib.hid hrb
  have HS7 := Lib.hid hs7.drew
  clear hs7 hrb
  refine wp_region_canon [(0, false, 4), (1, false, 3), (2, false, 3), (3, true, 0), (4, true, 0), (5, false, 999)] (by kernel_rfl) (by kernel_rfl) ?_
  iterate 3 (refine wpCan_read rfl rfl (fun K hK => ?_); (first | ((refine still_ld _ _ rfl _ _ rfl _ HLN.out ?_); go_simp) | go_simp); refine hK _ ?_; clear hK K)
  refine wpCan_eff rfl ?_
  refine wpList_do rfl (fun K hK => ?_)
  go_simp
  refine HIN.out.mono ?_
  rintro e8 w8 ⟨rfl, hk8⟩
  have HS8 := Lib.hid ((HS7.out.kept hk8).front 6 rfl)
  clear hk8 HS7 HIN HLN
  obtain ⟨q0, q1, q2, q3, q4, qf⟩ := cells5v (HS8.out.blk 1 rfl)
  refine hK _ _ ?_
  clear hK K
  refine wpList_nil ?_
  refine And.intro ?_ ?_
  ·go_simp
  refine wpCan_eff rfl ?_
  refine wpList_store_whole rfl _ _ _ rfl tLkV b3 rfl [z0, z1, z2, z3, z4] rfl zLkV HS8.out (by kernel_rfl) rfl HZ.out ?_
  intro w9 hs9
  have HS20 := Lib.hid hs9
  clear hs9 HS8 q0 q1 q2 q3 q4 qf
  refine wpList_nil ?_
  refine And.intro ?_ ?_
  ·go_simp
  iterate 1 (refine wpCan_read rfl rfl (fun K hK => ?_); (first | ((refine still_ld _ _ rfl _ _ rfl _ HLN.out ?_); go_simp) | go_simp); refine hK _ ?_; clear hK K)
  refine wpCan_nil ?_
  go_wp2_with fail
  refine bodyPost_ret (results_c2 rfl _ _ rfl (loadLkV (HS20.out.blk 0 rfl))) rfl ?_
  rw [HDA.out, HDQ2.out]
  dsimp only
  rw [HRB.out]
  refine ⟨_, D6, rfl, HLE5.out.trans HLE6.out, HD6.out, ?_⟩
  exact lks_mono (HS20.out.drop.drop.drop.swap.drop.swap.drop.swap.drop) HLE6.out
 ·skip
  have HDQ2 := Lib.hid (show stepL ts room m d kn on a.x.c a.dur a.hand = ((askK m room (mayK ts a.x.c) on a.x.c a.dur a.hand).1, (askD d on a.x.c a.dur a.hand).1, decide ((askK m room (mayK ts a.x.c) on a.x.c a.dur a.hand).2.1 = (askD d on a.x.c a.dur a.hand).2.1) && decide ((askK m room (mayK ts a.x.c) on a.x.c a.dur a.hand).2.2 = (askD d on a.x.c a.dur a.hand).2.2)) by unfold stepL; rw [if_neg (by omega), if_neg (by omega), if_neg (by omega), if_neg (by omega)])
  have e10 : (kn == 10) = false := by simp; omega
  have e11 : (kn == 11) = false := by simp; omega
  have e12 : (kn == 12) = false := by simp; omega
  have e13 : (kn == 13) = false := by simp; omega
  have e14 : (kn == 14) = false := by simp; omega
  have e15 : (kn == 15) = false := by simp; omega
  have HM1 := Lib.hid (show m.q.held.length ≤ 100000 by have := HM.out; omega)
  have HM2 := Lib.hid (show m.q.waits.length ≤ 1000 by have := HM.out; omega)
  clear hk h15
  go_enter Tryz.func24, Tryz.ntmps24
  go_upto_region 1 with fail
  rw [← HW1.out]
  clear HW1
  generalize w.heap.size + 1 + 1 = b3 at *
  generalize w.heap.size + 1 = b2 at *
  generalize w.heap.size = b1 at *
  obtain ⟨x0, x1, x2, x3, x4, x5⟩ := boxAct (HS1.out.blk 2 rfl)
  go_upto_region 24 with fail
  clear e10 e11 e12 e13 e14 e15
  have HLC := Lib.hid (loadCl (g := b2) (o := 2) (rangeActB (HS1.out.blk 2 rfl)))
  have HP := Lib.hid (Ask_L (on : Int) a.x a.dur a.hand HE.out HA.out HSM.out HND.out HQS.out HM1.out HM2.out HWY.out HS1.out)
  obtain ⟨P1, hP1⟩ : ∃ P1, askK m room (mayK ts a.x.c) on a.x.c a.dur a.hand = P1 := ⟨_, rfl⟩
  obtain ⟨P2, hP2⟩ : ∃ P2, askD d on a.x.c a.dur a.hand = P2 := ⟨_, rfl⟩
  rw [hP1, hP2] at HDQ2
  rw [hP1] at HP
  have HP2 := Lib.hid hP2
  obtain ⟨p1, pb, pe⟩ := P1
  obtain ⟨p2, pc, pf⟩ := P2
  clear HS1 hon hP1 hP2
  go_upto_region 25 with (first | (refine wpList_ld rfl _ _ rfl _ _ rfl _ HLC.out ?_) | (go_at_call 14; refine HP.out.mono ?_; rintro e5 w5 ⟨D5, rfl, hle5, hs5⟩; have HLE5 := Lib.hid hle5; have HS5 := Lib.hid hs5; clear hle5 hs5 HP HLC x0 x1 x2 x3 x4 x5))
  obtain ⟨x0, x1, x2, x3, x4, x5⟩ := boxAct (HS5.out.blk 2 rfl)
  have HLV := Lib.hid (loadLkV (HS5.out.blk 1 rfl))
  have HLC := Lib.hid (loadCl (g := b2) (o := 2) (rangeActB (HS5.out.blk 2 rfl)))
  have HR := Lib.hid (rkAsk_ok (on : Int) a.x a.dur a.hand (HD.out.mono HLE5.out) HOK.out (HA.out.mono HLE5.out) HF.out HSM.out HND.out HDQ.out HDR.out HDM.out HS5.out)
  rw [HP2.out] at HR
  go_upto_region 26 with (first | (refine wpList_ld rfl _ _ rfl _ _ rfl [_, _, _, _, _] HLV.out ?_) | (refine wpList_ld rfl _ _ rfl _ _ rfl _ HLC.out ?_) | (go_at_call 62; refine HR.out.mono ?_; rintro e6 w6 ⟨v6, D6, rfl, hle6, hd6, hs6⟩; obtain ⟨z0, z1, z2, z3, z4, rfl, hz⟩ := doc5 hd6; have HZ := Lib.hid hz; have HD6 := Lib.hid hd6; have HLE6 := Lib.hid hle6; have HS6 := Lib.hid (hs6.alloc #[z0, z1, z2, z3, z4] tLkV); clear hle6 hs6 hd6 hz HR HLV HLC HS5 x0 x1 x2 x3 x4 x5) | (refine wpList_store_new rfl _ _ _ rfl [z0, z1, z2, z3, z4] _ _ rfl rfl (by kernel_rfl) rfl HZ.out ?_))
  obtain ⟨W7, hW7, hs7⟩ := Sat.hide HS6.out
  rw [← hW7]
  clear hW7 HS6
  generalize w6.heap.size = bn at hs7 ⊢
  have HLN := Lib.hid (loadLkV (hs7.blk 0 rfl))
  have HS7 := Lib.hid (hs7.front 4 rfl)
  clear hs7
  have HBE := Lib.hid (show (pb == pc) = decide (pb = pc) from by cases pb <;> cases pc <;> rfl)
  cases hbe : (pb == pc)
  ·have HRB := Lib.hid (show (decide (pb = pc) && decide (pe = pf)) = false by rw [← HBE.out, hbe]; rfl)
   go_wp2_with (first | (refine wpList_ld rfl _ _ rfl _ _ rfl [_, _, _, _, _] HLN.out ?_) | (refine wpList_store_whole rfl _ _ _ rfl tLkV b3 rfl [z0, z1, z2, z3, z4] rfl zLkV HS7.out (by kernel_rfl) rfl HZ.out ?_; intro w9 hs9; have HS20 := Lib.hid hs9; clear hs9 HS7 HLN))
   refine bodyPost_ret (results_c2 rfl _ _ rfl (loadLkV (HS20.out.blk 0 rfl))) rfl ?_
   rw [HDA.out, HDQ2.out]
   dsimp only
   rw [HRB.out]
   refine ⟨_, D6, rfl, HLE5.out.trans HLE6.out, HD6.out, ?_⟩
   exact lks_mono (HS20.out.drop.drop.swap.drop.swap.drop) HLE6.out
  ·cases hee : (pe == pf)
   ·have HRB := Lib.hid (show (decide (pb = pc) && decide (pe = pf)) = false by rw [← HBE.out, hbe]; simp at hee; simp [hee])
    go_wp2_with (first | (refine wpList_ld rfl _ _ rfl _ _ rfl [_, _, _, _, _] HLN.out ?_) | (refine wpList_store_whole rfl _ _ _ rfl tLkV b3 rfl [z0, z1, z2, z3, z4] rfl zLkV HS7.out (by kernel_rfl) rfl HZ.out ?_; intro w9 hs9; have HS20 := Lib.hid hs9; clear hs9 HS7 HLN))
    refine bodyPost_ret (results_c2 rfl _ _ rfl (loadLkV (HS20.out.blk 0 rfl))) rfl ?_
    rw [HDA.out, HDQ2.out]
    dsimp only
    rw [HRB.out]
    refine ⟨_, D6, rfl, HLE5.out.trans HLE6.out, HD6.out, ?_⟩
    exact lks_mono (HS20.out.drop.drop.swap.drop.swap.drop) HLE6.out
   ·have HRB := Lib.hid (show (decide (pb = pc) && decide (pe = pf)) = true by rw [← HBE.out, hbe]; simp at hee; simp [hee])
    go_wp2_with (first | (refine wpList_ld rfl _ _ rfl _ _ rfl [_, _, _, _, _] HLN.out ?_) | (refine wpList_store_whole rfl _ _ _ rfl tLkV b3 rfl [z0, z1, z2, z3, z4] rfl zLkV HS7.out (by kernel_rfl) rfl HZ.out ?_; intro w9 hs9; have HS20 := Lib.hid hs9; clear hs9 HS7 HLN))
    refine bodyPost_ret (results_c2 rfl _ _ rfl (loadLkV (HS20.out.blk 0 rfl))) rfl ?_
    rw [HDA.out, HDQ2.out]
    dsimp only
    rw [HRB.out]
    refine ⟨_, D6, rfl, HLE5.out.trans HLE6.out, HD6.out, ?_⟩
    exact lks_mono (HS20.out.drop.drop.swap.drop.swap.drop) HLE6.out
end Go.Proofs.YtgljdkjepdknnaaGreatDoor
