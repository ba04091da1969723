/- Joined texts: An act over locks and over the document's, as data; how small what they hold is. An act over locks and over the document's (ratlinelaw11.done), but Escalate. (printed by genlkdone.py) -/
import Derived.Test.YtgljdkjepdknnaaGreatDoorMT41
import Derived.Test.YtgljdkjepdknnaaGreatDoorMT21
import Derived.Test.YtgljdkjepdknnaaGreatDoorMT17
import Derived.Test.YtgljdkjepdknnaaGreatDoorMT28
import Derived.Test.YtgljdkjepdknnaaGreatDoorMT27
import Derived.Test.YtgljdkjepdknnaaGreatDoorMT29
import Derived.Test.YtgljdkjepdknnaaGreatDoorMT26
set_option maxHeartbeats 64000000
namespace Go.Proofs.YtgljdkjepdknnaaGreatDoor
open Go.ChangeShapes Go.WideShapes Go.ChangeAt Go.RowKit
set_option linter.unusedSimpArgs false
theorem jc {α β : Type} {f : α → List β} {n : Nat} : ∀ {l : List α}, (∀ x ∈ l, 3 * (f x).length + 1 ≤ n) → 3 * (l.flatMap f).length + l.length ≤ l.length * n
 | [], _ => by simp
 | x :: l, h => by
  have h1 := jc (l := l) fun y hy => h y (List.mem_cons_of_mem _ hy)
  have h2 := h x (by simp)
  rw [List.flatMap_cons, List.length_append, List.length_cons, Nat.add_mul, Nat.one_mul]
  omega
theorem oN : ∀ (p : PredT) (d : Nat), p.flat d = true → 3 * p.nodes.length + 1 ≤ 4 ^ (5 - d) := by
 refine PredT.ind fun op col v w l ih d h => ?_
 rw [PredT.flat_eq, Bool.and_eq_true, Bool.and_eq_true, decide_eq_true_eq, decide_eq_true_eq] at h
 obtain ⟨⟨h1, h2⟩, h3⟩ := h
 rw [gd, List.length_cons]
 have hx := jc (f := PredT.nodes) (n := 4 ^ (4 - d)) (l := l) fun q hq => by
  have := ih q hq (d + 1) (List.all_eq_true.1 h3 q hq)
  rwa [show 5 - (d + 1) = 4 - d by omega] at this
 rw [show 5 - d = (4 - d) + 1 by omega, Nat.pow_succ]
 have hp : 0 < 4 ^ (4 - d) := by first | exact Nat.pow_pos (by omega) | exact Nat.pos_pow_of_pos _ (by omega) | exact Nat.pos_pow (by omega)
 generalize 4 ^ (4 - d) = P at *
 generalize (l.flatMap PredT.nodes).length = S at *
 have h5 : l.length = 0 ∨ l.length = 1 ∨ l.length = 2 ∨ l.length = 3 ∨ l.length = 4 := by omega
 rcases h5 with h5 | h5 | h5 | h5 | h5 <;> rw [h5] at hx <;> omega
theorem qQ {c : Clm} (h : gh c = true) : c.pred.nodes.length ≤ 1000000 := by
 unfold gh at h
 rw [Bool.and_eq_true] at h
 have := oN c.pred 0 h.2
 omega
noncomputable def fH (d : DocM) (o hand : Int) : DocM × List Int := if 1 ≤ hand ∧ hand ≤ 2 then dX d o 2 hand else dX d o 0 0
noncomputable def d7 (ts : List (List Bool)) (room : Int) (m : LkM) (d : DocM) (k o : Int) (c : Clm) (dur hand : Int) : LkM × DocM × Bool :=
 if k = 10 ∨ k = 11 then ((di m o 1).1, (dX d o 1 0).1, decide ((di m o 1).2 = (dX d o 1 0).2))
 else if k = 12 then ((di m o (cj 2 hand)).1, (fH d o hand).1, decide ((di m o (cj 2 hand)).2 = (fH d o hand).2))
 else if k = 13 then ((gM m o).1, (iq d o).1, decide ((gM m o).2 = (iq d o).2))
 else if k = 14 then ((dS m o).1, (dZ d o).1, decide ((dS m o).2 = (dZ d o).2))
 else ((dO m room (bK ts c) o c dur hand).1, (f8 d o c dur hand).1, decide ((dO m room (bK ts c) o c dur hand).2.1 = (f8 d o c dur hand).2.1) && decide ((dO m room (bK ts c) o c dur hand).2.2 = (f8 d o c dur hand).2.2))
structure LkOk (n : Nat) (m : LkM) (d : DocM) : Prop where
 q : ScOk n m.q
 w : m.why.length ≤ n
 dq : ScOk n d.q
 dr : d.r.length ≤ n
theorem LkOk.mono {n k : Nat} {m : LkM} {d : DocM} (h : LkOk n m d) (hk : n ≤ k) : LkOk k m d := ⟨h.q.mono hk, Nat.le_trans h.w hk, h.dq.mono hk, Nat.le_trans h.dr hk⟩
theorem i5 (l : List Rsn) (o : Int) (c : Clm) (w : Int) : (cV l o c w).length ≤ l.length + 1 := by
 unfold cV
 split
 ·split
  ·rw [List.length_set]; omega
  ·omega
 ·rw [List.length_append]; simp
theorem qq (l : List Rsn) (o w : Int) : (dA l o w).length ≤ l.length := by
 unfold dA
 exact Nat.le_trans (List.length_filter_le _ _) (by rw [List.length_map]; exact Nat.le_refl _)
theorem fb (l : List Rsn) (o : Int) (p : Clm → Bool) : (bD l o p).length ≤ l.length := List.length_filter_le _ _
theorem qR (l : List Rea) (o dur hand : Int) : (cT l o dur hand).length ≤ l.length := List.length_filter_le _ _
theorem ij (l : List Rea) (o : Int) (c : Clm) : (bw l o c).length ≤ l.length := List.length_filter_le _ _
theorem qY (l : List Rea) (o : Int) : (kY l o).length ≤ l.length := List.length_filter_le _ _
theorem iD {n : Nat} {m : LkM} (o w : Int) (h : ScOk n m.q) (hw : m.why.length ≤ n) : ScOk n (di m o w).1.q ∧ (di m o w).1.why.length ≤ n :=
 ⟨fJ h _, Nat.le_trans (qq _ _ _) hw⟩
theorem fm {n : Nat} {d : DocM} (o dur hand : Int) (h : ScOk n d.q) (hw : d.r.length ≤ n) : ScOk n (dX d o dur hand).1.q ∧ (dX d o dur hand).1.r.length ≤ n :=
 ⟨fJ h _, Nat.le_trans (qR _ _ _ _) hw⟩
theorem so {n : Nat} {ts : List (List Bool)} {room : Int} {m : LkM} {d : DocM} (h : LkOk n m d) (k : Int) {o : Int} (ho : 0 ≤ o ∧ o ≤ 7) {c : Clm} (hc : bS c) (hf : gh c = true) (dur hand : Int) :
  LkOk (n + 1) (d7 ts room m d k o c dur hand).1 (d7 ts room m d k o c dur hand).2.1 := by
 unfold d7
 split
 ·exact LkOk.mono (n := n) ⟨(iD o 1 h.q h.w).1, (iD o 1 h.q h.w).2, (fm o 1 0 h.dq h.dr).1, (fm o 1 0 h.dq h.dr).2⟩ (Nat.le_succ n)
 split
 ·refine LkOk.mono (n := n) ⟨(iD o _ h.q h.w).1, (iD o _ h.q h.w).2, ?_, ?_⟩ (Nat.le_succ n)
  ·dsimp only; unfold fH; split
   ·exact (fm o 2 hand h.dq h.dr).1
   ·exact (fm o 0 0 h.dq h.dr).1
  ·dsimp only; unfold fH; split
   ·exact (fm o 2 hand h.dq h.dr).2
   ·exact (fm o 0 0 h.dq h.dr).2
 split
 ·exact LkOk.mono (n := n) ⟨fJ (ie h.q o) _, Nat.le_trans (show (gM m o).1.why.length ≤ m.why.length from by unfold gM; dsimp only; exact fb m.why o _) h.w, fJ (ie h.dq o) _, Nat.le_trans (show (iq d o).1.r.length ≤ d.r.length from by unfold iq; dsimp only; exact qY d.r o) h.dr⟩ (Nat.le_succ n)
 split
 ·refine LkOk.mono (n := n) ⟨ie h.q o, ?_, ie h.dq o, ?_⟩ (Nat.le_succ n)
  ·show (dS m o).1.why.length ≤ n
   unfold dS
   dsimp only
   split
   ·exact Nat.le_trans (fb _ _ _) h.w
   ·exact h.w
  ·show (dZ d o).1.r.length ≤ n
   unfold dZ
   dsimp only
   split
   ·exact Nat.le_trans (ij _ _ _) h.dr
   ·exact h.dr
 ·have h1 : ScOk (n + 1) (dO m room (bK ts c) o c dur hand).1.q ∧ (dO m room (bK ts c) o c dur hand).1.why.length ≤ n + 1 := by
   unfold dO
   split
   ·exact ⟨h.q.mono (Nat.le_succ n), Nat.le_trans h.w (Nat.le_succ n)⟩
   split
   ·exact ⟨h.q.mono (Nat.le_succ n), Nat.le_trans h.w (Nat.le_succ n)⟩
   split
   ·exact ⟨h.q.mono (Nat.le_succ n), Nat.le_trans h.w (Nat.le_succ n)⟩
   ·exact ⟨jN h.q ho hc hf true, Nat.le_trans (i5 _ _ _ _) (by have := h.w; omega)⟩
  have h2 : ScOk (n + 1) (f8 d o c dur hand).1.q ∧ (f8 d o c dur hand).1.r.length ≤ n + 1 := by
   unfold f8
   split
   ·exact ⟨h.dq.mono (Nat.le_succ n), Nat.le_trans h.dr (Nat.le_succ n)⟩
   split
   ·exact ⟨h.dq.mono (Nat.le_succ n), Nat.le_trans h.dr (Nat.le_succ n)⟩
   split
   ·exact ⟨h.dq.mono (Nat.le_succ n), Nat.le_trans h.dr (Nat.le_succ n)⟩
   ·exact ⟨jN h.dq ho hc hf true, by show (d.r ++ [_]).length ≤ n + 1; rw [List.length_append]; have := h.dr; simp; omega⟩
  exact ⟨h1.1, h1.2, h2.1, h2.2⟩
end Go.Proofs.YtgljdkjepdknnaaGreatDoor
namespace Go.Proofs.YtgljdkjepdknnaaGreatDoor
open Go.ChangeShapes Go.WideShapes Go.ChangeAt Go.RowKit
set_option maxRecDepth 100000
set_option linter.unusedSimpArgs false
theorem oU (x : Int) : ∃ q : Nat, bits .and .i64 x 7 = (q : Int) ∧ q ≤ 7 := by
 have h : (BitVec.ofInt 64 x &&& BitVec.ofInt 64 7).toNat ≤ 7 := by
  rw [BitVec.toNat_and]
  exact Nat.and_le_right
 have e : bits .and .i64 x 7 = IntKind.i64.wrap ((BitVec.ofInt 64 x &&& BitVec.ofInt 64 7).toNat : Int) := rfl
 exact ⟨_, by rw [e, IntWalk.i64_in _ (by omega)], h⟩
def DoneL (B : World) (D : PH) (l : List HP) (L : Nat) (ts : List (List Bool)) (room : Int) (R : LkM × DocM × Bool) (r : Ending) (w' : World) : Prop := ∃ (v : Value) (D' : PH), r = .returned (.tuple #[v, .bool R.2.2]) ∧ PH.le D D' ∧ DocD D' v R.2.1 ∧ Sat B D' w' (b7 D' L ts room R.1 :: l)
noncomputable def sA (ts : List (List Bool)) (room : Int) (m : LkM) (d : DocM) (a : ActE) : LkM × DocM × Bool := d7 ts room m d (bits .and .i64 a.kind 15) (bits .and .i64 a.owner 7) a.x.c a.dur a.hand
theorem qU {B w : World} {D : PH} {l : List HP} {v : Value} {d : DocM} (o hand : Int) (hd : DocD D v d) (hM : d.r.length ≤ 1000) (hQ : d.q.held.length + d.q.waits.length ≤ 1000) (s : Sat B D w l) :
  Calls Tryz.prog 58 #[v, .int .i64 o, .int .i64 hand] w (g3 B D l (fH d o hand).1 (fH d o hand).2) := by
 unfold fH
 split
 ·exact mE o hand (by omega) (by omega) hd hM hQ s
 ·exact nc o hand (by omega) hd hM hQ s
theorem done_L {B w : World} {D : PH} {l : List HP} {L n : Nat} {ts : List (List Bool)} {room : Int} {v : Value} {m : LkM} {d : DocM} (a : ActE) (hE : EnvD D) (hd : DocD D v d) (hok : LkOk n m d) (hn : n ≤ 900) (ha : ClOk D a.x) (hf : bS a.x.c) (hfew : gh a.x.c = true) (h15 : bits .and .i64 a.kind 15 ≠ 15) (s : Sat B D w (b7 D L ts room m :: l)) :
  Calls Tryz.prog 24 #[.pointer (some ⟨L, 0, none⟩), v, .agg a.cells.toArray] w (DoneL B D l L ts room (sA ts room m d a)) := by
 obtain ⟨y0, y1, y2, y3, y4, rfl, h1⟩ := eW hd
 obtain ⟨W1, hW1, hs1⟩ := dJ s #[y0, y1, y2, y3, y4] a.cells.toArray cd aP kN aP
 obtain ⟨on, hon, ho7⟩ := oU a.owner
 obtain ⟨kn, hkn⟩ : ∃ kn, bits .and .i64 a.kind 15 = kn := ⟨_, rfl⟩
 have xL := BO (show sA ts room m d a = d7 ts room m d kn on a.x.c a.dur a.hand by unfold sA; rw [hkn, hon])
 have hq1 := hok.q.len
 have hq2 := hok.dq.len
 have HM := BO (show m.q.held.length + m.q.waits.length ≤ 1000 by omega)
 have wS := BO (show d.q.held.length + d.q.waits.length ≤ 1000 by omega)
 have zE := BO (show m.why.length ≤ 100000 by have := hok.w; omega)
 have uD := BO (show d.r.length ≤ 1000 by have := hok.dr; omega)
 have t8 := BO (show ClmSm 1000000 a.x.c from (nW hfew).mono (by omega))
 have yT := BO (show a.x.pr.p.nodes.length ≤ 1000000 from qQ hfew)
 have xF := BO (show ∀ e ∈ m.q.held, ClmSm 1000000 e.c from fun e he => (hok.q.all.1 e he).sm (by omega))
 have Ax := BO (show ∀ e ∈ d.q.held, ClmSm 1000000 e.c from fun e he => (hok.dq.all.1 e he).sm (by omega))
 have tJ := BO hok.dq.ok
 have H1 := BO h1
 have HE := BO hE
 have HD := BO hd
 have HA := BO ha
 have HF := BO hf
 have sR := BO hW1
 have sS := BO (hs1.front 3 rfl)
 rw [hkn] at h15
 clear s hs1 hW1 hok hn ha hf hfew hE hd h1 hq1 hq2
 have hk5 : (kn = 10 ∨ kn = 11) ∨ (kn = 12) ∨ (kn = 13) ∨ (kn = 14) ∨ (¬ (kn = 10 ∨ kn = 11 ∨ kn = 12 ∨ kn = 13 ∨ kn = 14)) := by omega
 rcases hk5 with hk | hk | hk | hk | hk
 ·skip
  have uT := BO (show d7 ts room m d kn on a.x.c a.dur a.hand = ((di m on 1).1, (dX d on 1 0).1, decide ((di m on 1).2 = (dX d on 1 0).2)) by unfold d7; rw [if_pos hk])
  rcases hk with rfl | rfl
  all_goals
   go_enter Tryz.func24, Tryz.ntmps24
   go_upto_region 1 with fail
   rw [← sR.out]
   clear sR
   generalize w.heap.size + 1 + 1 = b3 at *
   generalize w.heap.size + 1 = b2 at *
   generalize w.heap.size = b1 at *
   obtain ⟨x0, x1, x2, x3, x4, x5⟩ := dd (sS.out.blk 2 rfl)
   go_upto_region 5 with fail
   have HP := BO (jQ (on : Int) HE.out HM.out zE.out sS.out)
   clear sS hon
   go_upto_region 6 with (go_at_call 16; refine HP.out.mono ?_; rintro e5 w5 ⟨v5, D5, rfl, hle5, hs5⟩; obtain ⟨a5, c5, rfl⟩ := (hs5.front 1 rfl).own_shape; have tz := BO hle5; have sV := BO hs5; clear hle5 hs5 HP x0 x1 x2 x3 x4 x5)
   obtain ⟨x0, x1, x2, x3, x4, x5⟩ := dd (sV.out.blk 3 rfl)
   have tm := BO (aF (sV.out.blk 2 rfl))
   have HR := BO (mi (on : Int) (HD.out.mono tz.out) uD.out wS.out sV.out)
   go_upto_region 7 with (first | (refine ag rfl _ _ rfl _ _ rfl [_, _, _, _, _] tm.out ?_) | (go_at_call 57; refine HR.out.mono ?_; rintro e6 w6 ⟨v6, iv6, D6, rfl, hle6, hd6, hs6⟩; obtain ⟨a6, c6, rfl⟩ := hs6.own_shape; obtain ⟨z0, z1, z2, z3, z4, rfl, hz⟩ := eW hd6; have HZ := BO hz; have wi := BO hd6; have tw := BO hle6; have s0 := BO (hs6.alloc #[z0, z1, z2, z3, z4] aP); clear hle6 hs6 hd6 hz HR tm sV x0 x1 x2 x3 x4 x5) | (refine ax rfl _ _ _ rfl [z0, z1, z2, z3, z4] _ _ rfl rfl (by kernel_rfl) rfl HZ.out ?_))
   obtain ⟨W7, hW7, hs7⟩ := Sat.hide s0.out
   rw [← hW7]
   clear hW7 s0
   generalize w6.heap.size = bn at hs7 ⊢
   have tE := BO (aF (w := W7.drew) (hs7.drew.blk 0 rfl))
   obtain ⟨rb, hrb⟩ : ∃ rb, decide ((di m on 1).2 = (dX d on 1 0).2) = rb := ⟨_, rfl⟩
   have uP := BO (jS (hs7.drew.own 3 rfl).rd (hs7.drew.own 1 rfl).rd hrb)
   have vR := BO hrb
   have td := BO hs7.drew
   clear hs7 hrb
   refine af [(0, false, 4), (1, false, 3), (2, false, 3), (3, true, 0), (4, true, 0), (5, false, 999)] (by kernel_rfl) (by kernel_rfl) ?_
   iterate 3 (refine ae rfl rfl (fun K hK => ?_); (first | ((refine aj _ _ rfl _ _ rfl _ tE.out ?_); go_simp) | go_simp); refine hK _ ?_; clear hK K)
   refine al rfl ?_
   refine aw rfl (fun K hK => ?_)
   go_simp
   refine uP.out.mono ?_
   rintro e8 w8 ⟨rfl, hk8⟩
   have tj := BO ((td.out.kept hk8).front 6 rfl)
   clear hk8 td uP tE
   obtain ⟨q0, q1, q2, q3, q4, qf⟩ := aZ (tj.out.blk 1 rfl)
   refine hK _ _ ?_
   clear hK K
   refine wpList_nil ?_
   refine And.intro ?_ ?_
   ·go_simp
   refine al rfl ?_
   refine aq rfl _ _ _ rfl aP b3 rfl [z0, z1, z2, z3, z4] rfl cd tj.out (by kernel_rfl) rfl HZ.out ?_
   intro w9 hs9
   have te := BO hs9
   clear hs9 tj q0 q1 q2 q3 q4 qf
   refine wpList_nil ?_
   refine And.intro ?_ ?_
   ·go_simp
   refine ae rfl rfl (fun K hK => ?_); (first | ((refine aj _ _ rfl _ _ rfl _ tE.out ?_); go_simp) | go_simp); refine hK _ ?_; clear hK K
   refine ap ?_
   go_wp2_with fail
   refine bodyPost_ret (aL rfl _ _ rfl (aF (te.out.blk 0 rfl))) rfl ?_
   rw [xL.out, uT.out]
   dsimp only
   rw [vR.out]
   refine ⟨_, D6, rfl, tz.out.trans tw.out, wi.out, ?_⟩
   exact cu (te.out.drop.drop.drop.swap.drop.swap.drop.swap.drop) tw.out
 ·skip
  have uT := BO (show d7 ts room m d kn on a.x.c a.dur a.hand = ((di m on (cj 2 a.hand)).1, (fH d on a.hand).1, decide ((di m on (cj 2 a.hand)).2 = (fH d on a.hand).2)) by unfold d7; rw [if_neg (by omega), if_pos hk])
  subst hk
  go_enter Tryz.func24, Tryz.ntmps24
  go_upto_region 1 with fail
  rw [← sR.out]
  clear sR
  generalize w.heap.size + 1 + 1 = b3 at *
  generalize w.heap.size + 1 = b2 at *
  generalize w.heap.size = b1 at *
  obtain ⟨x0, x1, x2, x3, x4, x5⟩ := dd (sS.out.blk 2 rfl)
  go_upto_region 9 with fail
  have HP := BO (pU (on : Int) a.hand HE.out HM.out zE.out sS.out)
  clear sS hon
  go_upto_region 10 with (go_at_call 15; refine HP.out.mono ?_; rintro e5 w5 ⟨v5, D5, rfl, hle5, hs5⟩; obtain ⟨a5, c5, rfl⟩ := (hs5.front 1 rfl).own_shape; have tz := BO hle5; have sV := BO hs5; clear hle5 hs5 HP x0 x1 x2 x3 x4 x5)
  obtain ⟨x0, x1, x2, x3, x4, x5⟩ := dd (sV.out.blk 3 rfl)
  have tm := BO (aF (sV.out.blk 2 rfl))
  have HR := BO (qU (on : Int) a.hand (HD.out.mono tz.out) uD.out wS.out sV.out)
  go_upto_region 11 with (first | (refine ag rfl _ _ rfl _ _ rfl [_, _, _, _, _] tm.out ?_) | (go_at_call 58; refine HR.out.mono ?_; rintro e6 w6 ⟨v6, iv6, D6, rfl, hle6, hd6, hs6⟩; obtain ⟨a6, c6, rfl⟩ := hs6.own_shape; obtain ⟨z0, z1, z2, z3, z4, rfl, hz⟩ := eW hd6; have HZ := BO hz; have wi := BO hd6; have tw := BO hle6; have s0 := BO (hs6.alloc #[z0, z1, z2, z3, z4] aP); clear hle6 hs6 hd6 hz HR tm sV x0 x1 x2 x3 x4 x5) | (refine ax rfl _ _ _ rfl [z0, z1, z2, z3, z4] _ _ rfl rfl (by kernel_rfl) rfl HZ.out ?_))
  obtain ⟨W7, hW7, hs7⟩ := Sat.hide s0.out
  rw [← hW7]
  clear hW7 s0
  generalize w6.heap.size = bn at hs7 ⊢
  have tE := BO (aF (w := W7.drew) (hs7.drew.blk 0 rfl))
  obtain ⟨rb, hrb⟩ : ∃ rb, decide ((di m on (cj 2 a.hand)).2 = (fH d on a.hand).2) = rb := ⟨_, rfl⟩
  have uP := BO (jS (hs7.drew.own 3 rfl).rd (hs7.drew.own 1 rfl).rd hrb)
  have vR := BO hrb
  have td := BO hs7.drew
  clear hs7 hrb
  refine af [(0, false, 4), (1, false, 3), (2, false, 3), (3, true, 0), (4, true, 0), (5, false, 999)] (by kernel_rfl) (by kernel_rfl) ?_
  iterate 3 (refine ae rfl rfl (fun K hK => ?_); (first | ((refine aj _ _ rfl _ _ rfl _ tE.out ?_); go_simp) | go_simp); refine hK _ ?_; clear hK K)
  refine al rfl ?_
  refine aw rfl (fun K hK => ?_)
  go_simp
  refine uP.out.mono ?_
  rintro e8 w8 ⟨rfl, hk8⟩
  have tj := BO ((td.out.kept hk8).front 6 rfl)
  clear hk8 td uP tE
  obtain ⟨q0, q1, q2, q3, q4, qf⟩ := aZ (tj.out.blk 1 rfl)
  refine hK _ _ ?_
  clear hK K
  refine wpList_nil ?_
  refine And.intro ?_ ?_
  ·go_simp
  refine al rfl ?_
  refine aq rfl _ _ _ rfl aP b3 rfl [z0, z1, z2, z3, z4] rfl cd tj.out (by kernel_rfl) rfl HZ.out ?_
  intro w9 hs9
  have te := BO hs9
  clear hs9 tj q0 q1 q2 q3 q4 qf
  refine wpList_nil ?_
  refine And.intro ?_ ?_
  ·go_simp
  refine ae rfl rfl (fun K hK => ?_); (first | ((refine aj _ _ rfl _ _ rfl _ tE.out ?_); go_simp) | go_simp); refine hK _ ?_; clear hK K
  refine ap ?_
  go_wp2_with fail
  refine bodyPost_ret (aL rfl _ _ rfl (aF (te.out.blk 0 rfl))) rfl ?_
  rw [xL.out, uT.out]
  dsimp only
  rw [vR.out]
  refine ⟨_, D6, rfl, tz.out.trans tw.out, wi.out, ?_⟩
  exact cu (te.out.drop.drop.drop.swap.drop.swap.drop.swap.drop) tw.out
 ·skip
  have uT := BO (show d7 ts room m d kn on a.x.c a.dur a.hand = ((gM m on).1, (iq d on).1, decide ((gM m on).2 = (iq d on).2)) by unfold d7; rw [if_neg (by omega), if_neg (by omega), if_pos hk])
  subst hk
  go_enter Tryz.func24, Tryz.ntmps24
  go_upto_region 1 with fail
  rw [← sR.out]
  clear sR
  generalize w.heap.size + 1 + 1 = b3 at *
  generalize w.heap.size + 1 = b2 at *
  generalize w.heap.size = b1 at *
  obtain ⟨x0, x1, x2, x3, x4, x5⟩ := dd (sS.out.blk 2 rfl)
  go_upto_region 13 with fail
  have HP := BO (End_L (on : Int) HE.out HM.out sS.out)
  clear sS hon
  go_upto_region 14 with (go_at_call 29; refine HP.out.mono ?_; rintro e5 w5 ⟨v5, D5, rfl, hle5, hs5⟩; obtain ⟨a5, c5, rfl⟩ := (hs5.front 1 rfl).own_shape; have tz := BO hle5; have sV := BO hs5; clear hle5 hs5 HP x0 x1 x2 x3 x4 x5)
  obtain ⟨x0, x1, x2, x3, x4, x5⟩ := dd (sV.out.blk 3 rfl)
  have tm := BO (aF (sV.out.blk 2 rfl))
  have HR := BO (sB (on : Int) (HD.out.mono tz.out) uD.out wS.out sV.out)
  go_upto_region 15 with (first | (refine ag rfl _ _ rfl _ _ rfl [_, _, _, _, _] tm.out ?_) | (go_at_call 59; refine HR.out.mono ?_; rintro e6 w6 ⟨v6, iv6, D6, rfl, hle6, hd6, hs6⟩; obtain ⟨a6, c6, rfl⟩ := hs6.own_shape; obtain ⟨z0, z1, z2, z3, z4, rfl, hz⟩ := eW hd6; have HZ := BO hz; have wi := BO hd6; have tw := BO hle6; have s0 := BO (hs6.alloc #[z0, z1, z2, z3, z4] aP); clear hle6 hs6 hd6 hz HR tm sV x0 x1 x2 x3 x4 x5) | (refine ax rfl _ _ _ rfl [z0, z1, z2, z3, z4] _ _ rfl rfl (by kernel_rfl) rfl HZ.out ?_))
  obtain ⟨W7, hW7, hs7⟩ := Sat.hide s0.out
  rw [← hW7]
  clear hW7 s0
  generalize w6.heap.size = bn at hs7 ⊢
  have tE := BO (aF (w := W7.drew) (hs7.drew.blk 0 rfl))
  obtain ⟨rb, hrb⟩ : ∃ rb, decide ((gM m on).2 = (iq d on).2) = rb := ⟨_, rfl⟩
  have uP := BO (jS (hs7.drew.own 3 rfl).rd (hs7.drew.own 1 rfl).rd hrb)
  have vR := BO hrb
  have td := BO hs7.drew
  clear hs7 hrb
  refine af [(0, false, 4), (1, false, 3), (2, false, 3), (3, true, 0), (4, true, 0), (5, false, 999)] (by kernel_rfl) (by kernel_rfl) ?_
  iterate 3 (refine ae rfl rfl (fun K hK => ?_); (first | ((refine aj _ _ rfl _ _ rfl _ tE.out ?_); go_simp) | go_simp); refine hK _ ?_; clear hK K)
  refine al rfl ?_
  refine aw rfl (fun K hK => ?_)
  go_simp
  refine uP.out.mono ?_
  rintro e8 w8 ⟨rfl, hk8⟩
  have tj := BO ((td.out.kept hk8).front 6 rfl)
  clear hk8 td uP tE
  obtain ⟨q0, q1, q2, q3, q4, qf⟩ := aZ (tj.out.blk 1 rfl)
  refine hK _ _ ?_
  clear hK K
  refine wpList_nil ?_
  refine And.intro ?_ ?_
  ·go_simp
  refine al rfl ?_
  refine aq rfl _ _ _ rfl aP b3 rfl [z0, z1, z2, z3, z4] rfl cd tj.out (by kernel_rfl) rfl HZ.out ?_
  intro w9 hs9
  have te := BO hs9
  clear hs9 tj q0 q1 q2 q3 q4 qf
  refine wpList_nil ?_
  refine And.intro ?_ ?_
  ·go_simp
  refine ae rfl rfl (fun K hK => ?_); (first | ((refine aj _ _ rfl _ _ rfl _ tE.out ?_); go_simp) | go_simp); refine hK _ ?_; clear hK K
  refine ap ?_
  go_wp2_with fail
  refine bodyPost_ret (aL rfl _ _ rfl (aF (te.out.blk 0 rfl))) rfl ?_
  rw [xL.out, uT.out]
  dsimp only
  rw [vR.out]
  refine ⟨_, D6, rfl, tz.out.trans tw.out, wi.out, ?_⟩
  exact cu (te.out.drop.drop.drop.swap.drop.swap.drop.swap.drop) tw.out
 ·skip
  have uT := BO (show d7 ts room m d kn on a.x.c a.dur a.hand = ((dS m on).1, (dZ d on).1, decide ((dS m on).2 = (dZ d on).2)) by unfold d7; rw [if_neg (by omega), if_neg (by omega), if_neg (by omega), if_pos hk])
  subst hk
  go_enter Tryz.func24, Tryz.ntmps24
  go_upto_region 1 with fail
  rw [← sR.out]
  clear sR
  generalize w.heap.size + 1 + 1 = b3 at *
  generalize w.heap.size + 1 = b2 at *
  generalize w.heap.size = b1 at *
  obtain ⟨x0, x1, x2, x3, x4, x5⟩ := dd (sS.out.blk 2 rfl)
  go_upto_region 17 with fail
  have HP := BO (Leave_L (on : Int) HE.out HM.out sS.out)
  clear sS hon
  go_upto_region 18 with (go_at_call 37; refine HP.out.mono ?_; rintro e5 w5 ⟨v5, D5, rfl, hle5, hs5⟩; obtain ⟨a5, c5, rfl⟩ := (hs5.front 1 rfl).own_shape; have tz := BO hle5; have sV := BO hs5; clear hle5 hs5 HP x0 x1 x2 x3 x4 x5)
  obtain ⟨x0, x1, x2, x3, x4, x5⟩ := dd (sV.out.blk 3 rfl)
  have tm := BO (aF (sV.out.blk 2 rfl))
  have HR := BO (oq (on : Int) (HD.out.mono tz.out) uD.out wS.out sV.out)
  go_upto_region 19 with (first | (refine ag rfl _ _ rfl _ _ rfl [_, _, _, _, _] tm.out ?_) | (go_at_call 60; refine HR.out.mono ?_; rintro e6 w6 ⟨v6, iv6, D6, rfl, hle6, hd6, hs6⟩; obtain ⟨a6, c6, rfl⟩ := hs6.own_shape; obtain ⟨z0, z1, z2, z3, z4, rfl, hz⟩ := eW hd6; have HZ := BO hz; have wi := BO hd6; have tw := BO hle6; have s0 := BO (hs6.alloc #[z0, z1, z2, z3, z4] aP); clear hle6 hs6 hd6 hz HR tm sV x0 x1 x2 x3 x4 x5) | (refine ax rfl _ _ _ rfl [z0, z1, z2, z3, z4] _ _ rfl rfl (by kernel_rfl) rfl HZ.out ?_))
  obtain ⟨W7, hW7, hs7⟩ := Sat.hide s0.out
  rw [← hW7]
  clear hW7 s0
  generalize w6.heap.size = bn at hs7 ⊢
  have tE := BO (aF (w := W7.drew) (hs7.drew.blk 0 rfl))
  obtain ⟨rb, hrb⟩ : ∃ rb, decide ((dS m on).2 = (dZ d on).2) = rb := ⟨_, rfl⟩
  have uP := BO (jS (hs7.drew.own 3 rfl).rd (hs7.drew.own 1 rfl).rd hrb)
  have vR := BO hrb
  have td := BO hs7.drew
  clear hs7 hrb
  refine af [(0, false, 4), (1, false, 3), (2, false, 3), (3, true, 0), (4, true, 0), (5, false, 999)] (by kernel_rfl) (by kernel_rfl) ?_
  iterate 3 (refine ae rfl rfl (fun K hK => ?_); (first | ((refine aj _ _ rfl _ _ rfl _ tE.out ?_); go_simp) | go_simp); refine hK _ ?_; clear hK K)
  refine al rfl ?_
  refine aw rfl (fun K hK => ?_)
  go_simp
  refine uP.out.mono ?_
  rintro e8 w8 ⟨rfl, hk8⟩
  have tj := BO ((td.out.kept hk8).front 6 rfl)
  clear hk8 td uP tE
  obtain ⟨q0, q1, q2, q3, q4, qf⟩ := aZ (tj.out.blk 1 rfl)
  refine hK _ _ ?_
  clear hK K
  refine wpList_nil ?_
  refine And.intro ?_ ?_
  ·go_simp
  refine al rfl ?_
  refine aq rfl _ _ _ rfl aP b3 rfl [z0, z1, z2, z3, z4] rfl cd tj.out (by kernel_rfl) rfl HZ.out ?_
  intro w9 hs9
  have te := BO hs9
  clear hs9 tj q0 q1 q2 q3 q4 qf
  refine wpList_nil ?_
  refine And.intro ?_ ?_
  ·go_simp
  refine ae rfl rfl (fun K hK => ?_); (first | ((refine aj _ _ rfl _ _ rfl _ tE.out ?_); go_simp) | go_simp); refine hK _ ?_; clear hK K
  refine ap ?_
  go_wp2_with fail
  refine bodyPost_ret (aL rfl _ _ rfl (aF (te.out.blk 0 rfl))) rfl ?_
  rw [xL.out, uT.out]
  dsimp only
  rw [vR.out]
  refine ⟨_, D6, rfl, tz.out.trans tw.out, wi.out, ?_⟩
  exact cu (te.out.drop.drop.drop.swap.drop.swap.drop.swap.drop) tw.out
 ·skip
  have uT := BO (show d7 ts room m d kn on a.x.c a.dur a.hand = ((dO m room (bK ts a.x.c) on a.x.c a.dur a.hand).1, (f8 d on a.x.c a.dur a.hand).1, decide ((dO m room (bK ts a.x.c) on a.x.c a.dur a.hand).2.1 = (f8 d on a.x.c a.dur a.hand).2.1) && decide ((dO m room (bK ts a.x.c) on a.x.c a.dur a.hand).2.2 = (f8 d on a.x.c a.dur a.hand).2.2)) by unfold d7; rw [if_neg (by omega), if_neg (by omega), if_neg (by omega), if_neg (by omega)])
  have e10 : (kn == 10) = false := by simp; omega
  have e11 : (kn == 11) = false := by simp; omega
  have e12 : (kn == 12) = false := by simp; omega
  have e13 : (kn == 13) = false := by simp; omega
  have e14 : (kn == 14) = false := by simp; omega
  have e15 : (kn == 15) = false := by simp; omega
  have vl := BO (show m.q.held.length ≤ 100000 by have := HM.out; omega)
  have uZ := BO (show m.q.waits.length ≤ 1000 by have := HM.out; omega)
  clear hk h15
  go_enter Tryz.func24, Tryz.ntmps24
  go_upto_region 1 with fail
  rw [← sR.out]
  clear sR
  generalize w.heap.size + 1 + 1 = b3 at *
  generalize w.heap.size + 1 = b2 at *
  generalize w.heap.size = b1 at *
  obtain ⟨x0, x1, x2, x3, x4, x5⟩ := dd (sS.out.blk 2 rfl)
  go_upto_region 24 with fail
  clear e10 e11 e12 e13 e14 e15
  have tg := BO (ay (g := b2) (o := 2) (ld (sS.out.blk 2 rfl)))
  have HP := BO (o6 (on : Int) a.x a.dur a.hand HE.out HA.out t8.out yT.out xF.out vl.out uZ.out zE.out sS.out)
  obtain ⟨P1, hP1⟩ : ∃ P1, dO m room (bK ts a.x.c) on a.x.c a.dur a.hand = P1 := ⟨_, rfl⟩
  obtain ⟨P2, hP2⟩ : ∃ P2, f8 d on a.x.c a.dur a.hand = P2 := ⟨_, rfl⟩
  rw [hP1, hP2] at uT
  rw [hP1] at HP
  have yg := BO hP2
  obtain ⟨p1, pb, pe⟩ := P1
  obtain ⟨p2, pc, pf⟩ := P2
  clear sS hon hP1 hP2
  go_upto_region 25 with (first | (refine ag rfl _ _ rfl _ _ rfl _ tg.out ?_) | (go_at_call 14; refine HP.out.mono ?_; rintro e5 w5 ⟨D5, rfl, hle5, hs5⟩; have tz := BO hle5; have sV := BO hs5; clear hle5 hs5 HP tg x0 x1 x2 x3 x4 x5))
  obtain ⟨x0, x1, x2, x3, x4, x5⟩ := dd (sV.out.blk 2 rfl)
  have tm := BO (aF (sV.out.blk 1 rfl))
  have tg := BO (ay (g := b2) (o := 2) (ld (sV.out.blk 2 rfl)))
  have HR := BO (sy (on : Int) a.x a.dur a.hand (HD.out.mono tz.out) tJ.out (HA.out.mono tz.out) HF.out t8.out yT.out Ax.out uD.out wS.out sV.out)
  rw [yg.out] at HR
  go_upto_region 26 with (first | (refine ag rfl _ _ rfl _ _ rfl [_, _, _, _, _] tm.out ?_) | (refine ag rfl _ _ rfl _ _ rfl _ tg.out ?_) | (go_at_call 62; refine HR.out.mono ?_; rintro e6 w6 ⟨v6, D6, rfl, hle6, hd6, hs6⟩; obtain ⟨z0, z1, z2, z3, z4, rfl, hz⟩ := eW hd6; have HZ := BO hz; have wi := BO hd6; have tw := BO hle6; have s0 := BO (hs6.alloc #[z0, z1, z2, z3, z4] aP); clear hle6 hs6 hd6 hz HR tm tg sV x0 x1 x2 x3 x4 x5) | (refine ax rfl _ _ _ rfl [z0, z1, z2, z3, z4] _ _ rfl rfl (by kernel_rfl) rfl HZ.out ?_))
  obtain ⟨W7, hW7, hs7⟩ := Sat.hide s0.out
  rw [← hW7]
  clear hW7 s0
  generalize w6.heap.size = bn at hs7 ⊢
  have tE := BO (aF (hs7.blk 0 rfl))
  have td := BO (hs7.front 4 rfl)
  clear hs7
  have zF := BO (show (pb == pc) = decide (pb = pc) from by cases pb <;> cases pc <;> rfl)
  cases hbe : (pb == pc)
  ·have vR := BO (show (decide (pb = pc) && decide (pe = pf)) = false by rw [← zF.out, hbe]; rfl)
   go_wp2_with (first | (refine ag rfl _ _ rfl _ _ rfl [_, _, _, _, _] tE.out ?_) | (refine aq rfl _ _ _ rfl aP b3 rfl [z0, z1, z2, z3, z4] rfl cd td.out (by kernel_rfl) rfl HZ.out ?_; intro w9 hs9; have te := BO hs9; clear hs9 td tE))
   refine bodyPost_ret (aL rfl _ _ rfl (aF (te.out.blk 0 rfl))) rfl ?_
   rw [xL.out, uT.out]
   dsimp only
   rw [vR.out]
   refine ⟨_, D6, rfl, tz.out.trans tw.out, wi.out, ?_⟩
   exact cu (te.out.drop.drop.swap.drop.swap.drop) tw.out
  ·cases hee : (pe == pf)
   ·have vR := BO (show (decide (pb = pc) && decide (pe = pf)) = false by rw [← zF.out, hbe]; simp at hee; simp [hee])
    go_wp2_with (first | (refine ag rfl _ _ rfl _ _ rfl [_, _, _, _, _] tE.out ?_) | (refine aq rfl _ _ _ rfl aP b3 rfl [z0, z1, z2, z3, z4] rfl cd td.out (by kernel_rfl) rfl HZ.out ?_; intro w9 hs9; have te := BO hs9; clear hs9 td tE))
    refine bodyPost_ret (aL rfl _ _ rfl (aF (te.out.blk 0 rfl))) rfl ?_
    rw [xL.out, uT.out]
    dsimp only
    rw [vR.out]
    refine ⟨_, D6, rfl, tz.out.trans tw.out, wi.out, ?_⟩
    exact cu (te.out.drop.drop.swap.drop.swap.drop) tw.out
   ·have vR := BO (show (decide (pb = pc) && decide (pe = pf)) = true by rw [← zF.out, hbe]; simp at hee; simp [hee])
    go_wp2_with (first | (refine ag rfl _ _ rfl _ _ rfl [_, _, _, _, _] tE.out ?_) | (refine aq rfl _ _ _ rfl aP b3 rfl [z0, z1, z2, z3, z4] rfl cd td.out (by kernel_rfl) rfl HZ.out ?_; intro w9 hs9; have te := BO hs9; clear hs9 td tE))
    refine bodyPost_ret (aL rfl _ _ rfl (aF (te.out.blk 0 rfl))) rfl ?_
    rw [xL.out, uT.out]
    dsimp only
    rw [vR.out]
    refine ⟨_, D6, rfl, tz.out.trans tw.out, wi.out, ?_⟩
    exact cu (te.out.drop.drop.swap.drop.swap.drop) tw.out
end Go.Proofs.YtgljdkjepdknnaaGreatDoor
