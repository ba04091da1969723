/- Joined texts: An act over locks and over the document's, as data; how small what they hold is. An act over locks and over the document's (ratlinelaw11.done), but Escalate. (printed by genlkdone.py) -/
import Derived.Test.YtgljdkjepdknnaaGreatDoorML41
import Derived.Test.YtgljdkjepdknnaaGreatDoorML21
import Derived.Test.YtgljdkjepdknnaaGreatDoorML17
import Derived.Test.YtgljdkjepdknnaaGreatDoorML28
import Derived.Test.YtgljdkjepdknnaaGreatDoorML27
import Derived.Test.YtgljdkjepdknnaaGreatDoorML29
import Derived.Test.YtgljdkjepdknnaaGreatDoorML26
set_option maxHeartbeats 64000000
namespace Go.Proofs.YtgljdkjepdknnaaGreatDoor
open Go.ChangeShapes Go.WideShapes Go.ChangeAt Go.RowKit
set_option linter.unusedSimpArgs false
theorem kj {α β : Type} {f : α → List β} {n : Nat} : ∀ {l : List α}, (∀ x ∈ l, 3 * (f x).length + 1 ≤ n) → 3 * (l.flatMap f).length + l.length ≤ l.length * n
 | [], _ => by simp
 | x :: l, h => by
  have h1 := kj (l := l) fun y hy => h y (List.mem_cons_of_mem _ hy)
  have h2 := h x (by simp)
  rw [List.flatMap_cons, List.length_append, List.length_cons, Nat.add_mul, Nat.one_mul]
  omega
theorem pG : ∀ (p : PredT) (d : Nat), p.flat d = true → 3 * p.nodes.length + 1 ≤ 4 ^ (5 - d) := by
 refine PredT.ind fun op col v w l ih d h => ?_
 rw [PredT.flat_eq, Bool.and_eq_true, Bool.and_eq_true, decide_eq_true_eq, decide_eq_true_eq] at h
 obtain ⟨⟨h1, h2⟩, h3⟩ := h
 rw [ij, List.length_cons]
 have hx := kj (f := PredT.nodes) (n := 4 ^ (4 - d)) (l := l) fun q hq => by
  have := ih q hq (d + 1) (List.all_eq_true.1 h3 q hq)
  rwa [show 5 - (d + 1) = 4 - d by omega] at this
 rw [show 5 - d = (4 - d) + 1 by omega, Nat.pow_succ]
 have hp : 0 < 4 ^ (4 - d) := by first | exact Nat.pow_pos (by omega) | exact Nat.pos_pow_of_pos _ (by omega) | exact Nat.pos_pow (by omega)
 generalize 4 ^ (4 - d) = P at *
 generalize (l.flatMap PredT.nodes).length = S at *
 have h5 : l.length = 0 ∨ l.length = 1 ∨ l.length = 2 ∨ l.length = 3 ∨ l.length = 4 := by omega
 rcases h5 with h5 | h5 | h5 | h5 | h5 <;> rw [h5] at hx <;> omega
theorem mm {c : Clm} (h : fK c = true) : c.pred.nodes.length ≤ 1000000 := by
 unfold fK at h
 rw [Bool.and_eq_true] at h
 have := pG c.pred 0 h.2
 omega
noncomputable def gk (d : DocM) (o hand : Int) : DocM × List Int := if 1 ≤ hand ∧ hand ≤ 2 then ej d o 2 hand else ej d o 0 0
noncomputable def ex (ts : List (List Bool)) (room : Int) (m : LkM) (d : DocM) (k o : Int) (c : Clm) (dur hand : Int) : LkM × DocM × Bool :=
 if k = 10 ∨ k = 11 then ((cY m o 1).1, (ej d o 1 0).1, decide ((cY m o 1).2 = (ej d o 1 0).2))
 else if k = 12 then ((cY m o (cu 2 hand)).1, (gk d o hand).1, decide ((cY m o (cu 2 hand)).2 = (gk d o hand).2))
 else if k = 13 then ((fM m o).1, (jj d o).1, decide ((fM m o).2 = (jj d o).2))
 else if k = 14 then ((et m o).1, (eu d o).1, decide ((et m o).2 = (eu d o).2))
 else ((cW m room (bH ts c) o c dur hand).1, (gQ d o c dur hand).1, decide ((cW m room (bH ts c) o c dur hand).2.1 = (gQ d o c dur hand).2.1) && decide ((cW m room (bH ts c) o c dur hand).2.2 = (gQ d o c dur hand).2.2))
structure LkOk (n : Nat) (m : LkM) (d : DocM) : Prop where
 q : ScOk n m.q
 w : m.why.length ≤ n
 dq : ScOk n d.q
 dr : d.r.length ≤ n
theorem LkOk.mono {n k : Nat} {m : LkM} {d : DocM} (h : LkOk n m d) (hk : n ≤ k) : LkOk k m d := ⟨h.q.mono hk, Nat.le_trans h.w hk, h.dq.mono hk, Nat.le_trans h.dr hk⟩
theorem jI (l : List Rsn) (o : Int) (c : Clm) (w : Int) : (di l o c w).length ≤ l.length + 1 := by
 unfold di
 split
 ·split
  ·rw [List.length_set]; omega
  ·omega
 ·rw [List.length_append]; simp
theorem mi (l : List Rsn) (o w : Int) : (dH l o w).length ≤ l.length := by
 unfold dH
 exact Nat.le_trans (List.length_filter_le _ _) (by rw [List.length_map]; exact Nat.le_refl _)
theorem fD (l : List Rsn) (o : Int) (p : Clm → Bool) : (bI l o p).length ≤ l.length := List.length_filter_le _ _
theorem s4 (l : List Rea) (o dur hand : Int) : (dh l o dur hand).length ≤ l.length := List.length_filter_le _ _
theorem jn (l : List Rea) (o : Int) (c : Clm) : (bL l o c).length ≤ l.length := List.length_filter_le _ _
theorem tq (l : List Rea) (o : Int) : (l3 l o).length ≤ l.length := List.length_filter_le _ _
theorem i7 {n : Nat} {m : LkM} (o w : Int) (h : ScOk n m.q) (hw : m.why.length ≤ n) : ScOk n (cY m o w).1.q ∧ (cY m o w).1.why.length ≤ n :=
 ⟨fH h _, Nat.le_trans (mi _ _ _) hw⟩
theorem fQ {n : Nat} {d : DocM} (o dur hand : Int) (h : ScOk n d.q) (hw : d.r.length ≤ n) : ScOk n (ej d o dur hand).1.q ∧ (ej d o dur hand).1.r.length ≤ n :=
 ⟨fH h _, Nat.le_trans (s4 _ _ _ _) hw⟩
theorem tF {n : Nat} {ts : List (List Bool)} {room : Int} {m : LkM} {d : DocM} (h : LkOk n m d) (k : Int) {o : Int} (ho : 0 ≤ o ∧ o ≤ 7) {c : Clm} (hc : bV c) (hf : fK c = true) (dur hand : Int) :
  LkOk (n + 1) (ex ts room m d k o c dur hand).1 (ex ts room m d k o c dur hand).2.1 := by
 unfold ex
 split
 ·exact LkOk.mono (n := n) ⟨(i7 o 1 h.q h.w).1, (i7 o 1 h.q h.w).2, (fQ o 1 0 h.dq h.dr).1, (fQ o 1 0 h.dq h.dr).2⟩ (Nat.le_succ n)
 split
 ·refine LkOk.mono (n := n) ⟨(i7 o _ h.q h.w).1, (i7 o _ h.q h.w).2, ?_, ?_⟩ (Nat.le_succ n)
  ·dsimp only; unfold gk; split
   ·exact (fQ o 2 hand h.dq h.dr).1
   ·exact (fQ o 0 0 h.dq h.dr).1
  ·dsimp only; unfold gk; split
   ·exact (fQ o 2 hand h.dq h.dr).2
   ·exact (fQ o 0 0 h.dq h.dr).2
 split
 ·exact LkOk.mono (n := n) ⟨fH (g8 h.q o) _, Nat.le_trans (show (fM m o).1.why.length ≤ m.why.length from by unfold fM; dsimp only; exact fD m.why o _) h.w, fH (g8 h.dq o) _, Nat.le_trans (show (jj d o).1.r.length ≤ d.r.length from by unfold jj; dsimp only; exact tq d.r o) h.dr⟩ (Nat.le_succ n)
 split
 ·refine LkOk.mono (n := n) ⟨g8 h.q o, ?_, g8 h.dq o, ?_⟩ (Nat.le_succ n)
  ·show (et m o).1.why.length ≤ n
   unfold et
   dsimp only
   split
   ·exact Nat.le_trans (fD _ _ _) h.w
   ·exact h.w
  ·show (eu d o).1.r.length ≤ n
   unfold eu
   dsimp only
   split
   ·exact Nat.le_trans (jn _ _ _) h.dr
   ·exact h.dr
 ·have h1 : ScOk (n + 1) (cW m room (bH ts c) o c dur hand).1.q ∧ (cW m room (bH ts c) o c dur hand).1.why.length ≤ n + 1 := by
   unfold cW
   split
   ·exact ⟨h.q.mono (Nat.le_succ n), Nat.le_trans h.w (Nat.le_succ n)⟩
   split
   ·exact ⟨h.q.mono (Nat.le_succ n), Nat.le_trans h.w (Nat.le_succ n)⟩
   split
   ·exact ⟨h.q.mono (Nat.le_succ n), Nat.le_trans h.w (Nat.le_succ n)⟩
   ·exact ⟨lG h.q ho hc hf true, Nat.le_trans (jI _ _ _ _) (by have := h.w; omega)⟩
  have h2 : ScOk (n + 1) (gQ d o c dur hand).1.q ∧ (gQ d o c dur hand).1.r.length ≤ n + 1 := by
   unfold gQ
   split
   ·exact ⟨h.dq.mono (Nat.le_succ n), Nat.le_trans h.dr (Nat.le_succ n)⟩
   split
   ·exact ⟨h.dq.mono (Nat.le_succ n), Nat.le_trans h.dr (Nat.le_succ n)⟩
   split
   ·exact ⟨h.dq.mono (Nat.le_succ n), Nat.le_trans h.dr (Nat.le_succ n)⟩
   ·exact ⟨lG h.dq ho hc hf true, by show (d.r ++ [_]).length ≤ n + 1; rw [List.length_append]; have := h.dr; simp; omega⟩
  exact ⟨h1.1, h1.2, h2.1, h2.2⟩
end Go.Proofs.YtgljdkjepdknnaaGreatDoor
namespace Go.Proofs.YtgljdkjepdknnaaGreatDoor
open Go.ChangeShapes Go.WideShapes Go.ChangeAt Go.RowKit
set_option maxRecDepth 100000
set_option linter.unusedSimpArgs false
theorem rG (x : Int) : ∃ q : Nat, bits .and .i64 x 7 = (q : Int) ∧ q ≤ 7 := by
 have h : (BitVec.ofInt 64 x &&& BitVec.ofInt 64 7).toNat ≤ 7 := by
  rw [BitVec.toNat_and]
  exact Nat.and_le_right
 have e : bits .and .i64 x 7 = IntKind.i64.wrap ((BitVec.ofInt 64 x &&& BitVec.ofInt 64 7).toNat : Int) := rfl
 exact ⟨_, by rw [e, IntWalk.i64_in _ (by omega)], h⟩
def DoneL (B : World) (D : PH) (l : List HP) (L : Nat) (ts : List (List Bool)) (room : Int) (R : LkM × DocM × Bool) (r : Ending) (w' : World) : Prop := ∃ (v : Value) (D' : PH), r = .returned (.tuple #[v, .bool R.2.2]) ∧ PH.le D D' ∧ DocD D' v R.2.1 ∧ Sat B D' w' (cd D' L ts room R.1 :: l)
noncomputable def s7 (ts : List (List Bool)) (room : Int) (m : LkM) (d : DocM) (a : ActE) : LkM × DocM × Bool := ex ts room m d (bits .and .i64 a.kind 15) (bits .and .i64 a.owner 7) a.x.c a.dur a.hand
theorem tk {B w : World} {D : PH} {l : List HP} {v : Value} {d : DocM} (o hand : Int) (hd : DocD D v d) (hM : d.r.length ≤ 1000) (hQ : d.q.held.length + d.q.waits.length ≤ 1000) (s : Sat B D w l) :
  Calls Tryz.prog 58 #[v, .int .i64 o, .int .i64 hand] w (iN B D l (gk d o hand).1 (gk d o hand).2) := by
 unfold gk
 split
 ·exact px o hand (by omega) (by omega) hd hM hQ s
 ·exact oU o hand (by omega) hd hM hQ s
theorem done_L {B w : World} {D : PH} {l : List HP} {L n : Nat} {ts : List (List Bool)} {room : Int} {v : Value} {m : LkM} {d : DocM} (a : ActE) (hE : EnvD D) (hd : DocD D v d) (hok : LkOk n m d) (hn : n ≤ 900) (ha : ClOk D a.x) (hf : bV a.x.c) (hfew : fK a.x.c = true) (h15 : bits .and .i64 a.kind 15 ≠ 15) (s : Sat B D w (cd D L ts room m :: l)) :
  Calls Tryz.prog 24 #[.pointer (some ⟨L, 0, none⟩), v, .agg a.cells.toArray] w (DoneL B D l L ts room (s7 ts room m d a)) := by
 obtain ⟨y0, y1, y2, y3, y4, rfl, h1⟩ := eY hd
 obtain ⟨W1, hW1, hs1⟩ := d9 s #[y0, y1, y2, y3, y4] a.cells.toArray cp aQ uq aQ
 obtain ⟨on, hon, ho7⟩ := rG a.owner
 obtain ⟨kn, hkn⟩ : ∃ kn, bits .and .i64 a.kind 15 = kn := ⟨_, rfl⟩
 have Ac := Eh (show s7 ts room m d a = ex ts room m d kn on a.x.c a.dur a.hand by unfold s7; rw [hkn, hon])
 have hq1 := hok.q.len
 have hq2 := hok.dq.len
 have HM := Eh (show m.q.held.length + m.q.waits.length ≤ 1000 by omega)
 have zw := Eh (show d.q.held.length + d.q.waits.length ≤ 1000 by omega)
 have BT := Eh (show m.why.length ≤ 100000 by have := hok.w; omega)
 have wZ := Eh (show d.r.length ≤ 1000 by have := hok.dr; omega)
 have wx := Eh (show ClmSm 1000000 a.x.c from (m0 hfew).mono (by omega))
 have Bj := Eh (show a.x.pr.p.nodes.length ≤ 1000000 from mm hfew)
 have zZ := Eh (show ∀ e ∈ m.q.held, ClmSm 1000000 e.c from fun e he => (hok.q.all.1 e he).sm (by omega))
 have CH := Eh (show ∀ e ∈ d.q.held, ClmSm 1000000 e.c from fun e he => (hok.dq.all.1 e he).sm (by omega))
 have vP := Eh hok.dq.ok
 have H1 := Eh h1
 have HE := Eh hE
 have HD := Eh hd
 have HA := Eh ha
 have HF := Eh hf
 have uW := Eh hW1
 have uX := Eh (hs1.front 3 rfl)
 rw [hkn] at h15
 clear s hs1 hW1 hok hn ha hf hfew hE hd h1 hq1 hq2
 have hk5 : (kn = 10 ∨ kn = 11) ∨ (kn = 12) ∨ (kn = 13) ∨ (kn = 14) ∨ (¬ (kn = 10 ∨ kn = 11 ∨ kn = 12 ∨ kn = 13 ∨ kn = 14)) := by omega
 rcases hk5 with hk | hk | hk | hk | hk
 ·skip
  have xA := Eh (show ex ts room m d kn on a.x.c a.dur a.hand = ((cY m on 1).1, (ej d on 1 0).1, decide ((cY m on 1).2 = (ej d on 1 0).2)) by unfold ex; rw [if_pos hk])
  rcases hk with rfl | rfl
  all_goals
   go_enter Tryz.func24, Tryz.ntmps24
   go_upto_region 1 with fail
   rw [← uW.out]
   clear uW
   generalize w.heap.size + 1 + 1 = b3 at *
   generalize w.heap.size + 1 = b2 at *
   generalize w.heap.size = b1 at *
   obtain ⟨x0, x1, x2, x3, x4, x5⟩ := eD (uX.out.blk 2 rfl)
   go_upto_region 5 with fail
   have HP := Eh (i4 (on : Int) HE.out HM.out BT.out uX.out)
   clear uX hon
   go_upto_region 6 with (go_at_call 16; refine HP.out.mono ?_; rintro e5 w5 ⟨v5, D5, rfl, hle5, hs5⟩; obtain ⟨a5, c5, rfl⟩ := (hs5.front 1 rfl).own_shape; have vC := Eh hle5; have uZ := Eh hs5; clear hle5 hs5 HP x0 x1 x2 x3 x4 x5)
   obtain ⟨x0, x1, x2, x3, x4, x5⟩ := eD (uZ.out.blk 3 rfl)
   have vx := Eh (aG (uZ.out.blk 2 rfl))
   have HR := Eh (m4 (on : Int) (HD.out.mono vC.out) wZ.out zw.out uZ.out)
   go_upto_region 7 with (first | (refine ai rfl _ _ rfl _ _ rfl [_, _, _, _, _] vx.out ?_) | (go_at_call 57; refine HR.out.mono ?_; rintro e6 w6 ⟨v6, iv6, D6, rfl, hle6, hd6, hs6⟩; obtain ⟨a6, c6, rfl⟩ := hs6.own_shape; obtain ⟨z0, z1, z2, z3, z4, rfl, hz⟩ := eY hd6; have HZ := Eh hz; have yb := Eh hd6; have vF := Eh hle6; have vi := Eh (hs6.alloc #[z0, z1, z2, z3, z4] aQ); clear hle6 hs6 hd6 hz HR vx uZ x0 x1 x2 x3 x4 x5) | (refine ax rfl _ _ _ rfl [z0, z1, z2, z3, z4] _ _ rfl rfl (by kernel_rfl) rfl HZ.out ?_))
   obtain ⟨W7, hW7, hs7⟩ := Sat.hide vi.out
   rw [← hW7]
   clear hW7 vi
   generalize w6.heap.size = bn at hs7 ⊢
   have vK := Eh (aG (w := W7.drew) (hs7.drew.blk 0 rfl))
   obtain ⟨rb, hrb⟩ : ∃ rb, decide ((cY m on 1).2 = (ej d on 1 0).2) = rb := ⟨_, rfl⟩
   have wX := Eh (jW (hs7.drew.own 3 rfl).rd (hs7.drew.own 1 rfl).rd hrb)
   have yd := Eh hrb
   have vn := Eh hs7.drew
   clear hs7 hrb
   refine ag [(0, false, 4), (1, false, 3), (2, false, 3), (3, true, 0), (4, true, 0), (5, false, 999)] (by kernel_rfl) (by kernel_rfl) ?_
   iterate 3 (refine af rfl rfl (fun K hK => ?_); (first | ((refine aj _ _ rfl _ _ rfl _ vK.out ?_); go_simp) | go_simp); refine hK _ ?_; clear hK K)
   refine al rfl ?_
   refine aw rfl (fun K hK => ?_)
   go_simp
   refine wX.out.mono ?_
   rintro e8 w8 ⟨rfl, hk8⟩
   have vw := Eh ((vn.out.kept hk8).front 6 rfl)
   clear hk8 vn wX vK
   obtain ⟨q0, q1, q2, q3, q4, qf⟩ := aT (vw.out.blk 1 rfl)
   refine hK _ _ ?_
   clear hK K
   refine wpList_nil ?_
   refine And.intro ?_ ?_
   ·go_simp
   refine al rfl ?_
   refine ap rfl _ _ _ rfl aQ b3 rfl [z0, z1, z2, z3, z4] rfl cp vw.out (by kernel_rfl) rfl HZ.out ?_
   intro w9 hs9
   have vq := Eh hs9
   clear hs9 vw q0 q1 q2 q3 q4 qf
   refine wpList_nil ?_
   refine And.intro ?_ ?_
   ·go_simp
   refine af rfl rfl (fun K hK => ?_); (first | ((refine aj _ _ rfl _ _ rfl _ vK.out ?_); go_simp) | go_simp); refine hK _ ?_; clear hK K
   refine ar ?_
   go_wp2_with fail
   refine bodyPost_ret (aL rfl _ _ rfl (aG (vq.out.blk 0 rfl))) rfl ?_
   rw [Ac.out, xA.out]
   dsimp only
   rw [yd.out]
   refine ⟨_, D6, rfl, vC.out.trans vF.out, yb.out, ?_⟩
   exact bK (vq.out.drop.drop.drop.swap.drop.swap.drop.swap.drop) vF.out
 ·skip
  have xA := Eh (show ex ts room m d kn on a.x.c a.dur a.hand = ((cY m on (cu 2 a.hand)).1, (gk d on a.hand).1, decide ((cY m on (cu 2 a.hand)).2 = (gk d on a.hand).2)) by unfold ex; rw [if_neg (by omega), if_pos hk])
  subst hk
  go_enter Tryz.func24, Tryz.ntmps24
  go_upto_region 1 with fail
  rw [← uW.out]
  clear uW
  generalize w.heap.size + 1 + 1 = b3 at *
  generalize w.heap.size + 1 = b2 at *
  generalize w.heap.size = b1 at *
  obtain ⟨x0, x1, x2, x3, x4, x5⟩ := eD (uX.out.blk 2 rfl)
  go_upto_region 9 with fail
  have HP := Eh (jB (on : Int) a.hand HE.out HM.out BT.out uX.out)
  clear uX hon
  go_upto_region 10 with (go_at_call 15; refine HP.out.mono ?_; rintro e5 w5 ⟨v5, D5, rfl, hle5, hs5⟩; obtain ⟨a5, c5, rfl⟩ := (hs5.front 1 rfl).own_shape; have vC := Eh hle5; have uZ := Eh hs5; clear hle5 hs5 HP x0 x1 x2 x3 x4 x5)
  obtain ⟨x0, x1, x2, x3, x4, x5⟩ := eD (uZ.out.blk 3 rfl)
  have vx := Eh (aG (uZ.out.blk 2 rfl))
  have HR := Eh (tk (on : Int) a.hand (HD.out.mono vC.out) wZ.out zw.out uZ.out)
  go_upto_region 11 with (first | (refine ai rfl _ _ rfl _ _ rfl [_, _, _, _, _] vx.out ?_) | (go_at_call 58; refine HR.out.mono ?_; rintro e6 w6 ⟨v6, iv6, D6, rfl, hle6, hd6, hs6⟩; obtain ⟨a6, c6, rfl⟩ := hs6.own_shape; obtain ⟨z0, z1, z2, z3, z4, rfl, hz⟩ := eY hd6; have HZ := Eh hz; have yb := Eh hd6; have vF := Eh hle6; have vi := Eh (hs6.alloc #[z0, z1, z2, z3, z4] aQ); clear hle6 hs6 hd6 hz HR vx uZ x0 x1 x2 x3 x4 x5) | (refine ax rfl _ _ _ rfl [z0, z1, z2, z3, z4] _ _ rfl rfl (by kernel_rfl) rfl HZ.out ?_))
  obtain ⟨W7, hW7, hs7⟩ := Sat.hide vi.out
  rw [← hW7]
  clear hW7 vi
  generalize w6.heap.size = bn at hs7 ⊢
  have vK := Eh (aG (w := W7.drew) (hs7.drew.blk 0 rfl))
  obtain ⟨rb, hrb⟩ : ∃ rb, decide ((cY m on (cu 2 a.hand)).2 = (gk d on a.hand).2) = rb := ⟨_, rfl⟩
  have wX := Eh (jW (hs7.drew.own 3 rfl).rd (hs7.drew.own 1 rfl).rd hrb)
  have yd := Eh hrb
  have vn := Eh hs7.drew
  clear hs7 hrb
  refine ag [(0, false, 4), (1, false, 3), (2, false, 3), (3, true, 0), (4, true, 0), (5, false, 999)] (by kernel_rfl) (by kernel_rfl) ?_
  iterate 3 (refine af rfl rfl (fun K hK => ?_); (first | ((refine aj _ _ rfl _ _ rfl _ vK.out ?_); go_simp) | go_simp); refine hK _ ?_; clear hK K)
  refine al rfl ?_
  refine aw rfl (fun K hK => ?_)
  go_simp
  refine wX.out.mono ?_
  rintro e8 w8 ⟨rfl, hk8⟩
  have vw := Eh ((vn.out.kept hk8).front 6 rfl)
  clear hk8 vn wX vK
  obtain ⟨q0, q1, q2, q3, q4, qf⟩ := aT (vw.out.blk 1 rfl)
  refine hK _ _ ?_
  clear hK K
  refine wpList_nil ?_
  refine And.intro ?_ ?_
  ·go_simp
  refine al rfl ?_
  refine ap rfl _ _ _ rfl aQ b3 rfl [z0, z1, z2, z3, z4] rfl cp vw.out (by kernel_rfl) rfl HZ.out ?_
  intro w9 hs9
  have vq := Eh hs9
  clear hs9 vw q0 q1 q2 q3 q4 qf
  refine wpList_nil ?_
  refine And.intro ?_ ?_
  ·go_simp
  refine af rfl rfl (fun K hK => ?_); (first | ((refine aj _ _ rfl _ _ rfl _ vK.out ?_); go_simp) | go_simp); refine hK _ ?_; clear hK K
  refine ar ?_
  go_wp2_with fail
  refine bodyPost_ret (aL rfl _ _ rfl (aG (vq.out.blk 0 rfl))) rfl ?_
  rw [Ac.out, xA.out]
  dsimp only
  rw [yd.out]
  refine ⟨_, D6, rfl, vC.out.trans vF.out, yb.out, ?_⟩
  exact bK (vq.out.drop.drop.drop.swap.drop.swap.drop.swap.drop) vF.out
 ·skip
  have xA := Eh (show ex ts room m d kn on a.x.c a.dur a.hand = ((fM m on).1, (jj d on).1, decide ((fM m on).2 = (jj d on).2)) by unfold ex; rw [if_neg (by omega), if_neg (by omega), if_pos hk])
  subst hk
  go_enter Tryz.func24, Tryz.ntmps24
  go_upto_region 1 with fail
  rw [← uW.out]
  clear uW
  generalize w.heap.size + 1 + 1 = b3 at *
  generalize w.heap.size + 1 = b2 at *
  generalize w.heap.size = b1 at *
  obtain ⟨x0, x1, x2, x3, x4, x5⟩ := eD (uX.out.blk 2 rfl)
  go_upto_region 13 with fail
  have HP := Eh (ri (on : Int) HE.out HM.out uX.out)
  clear uX hon
  go_upto_region 14 with (go_at_call 29; refine HP.out.mono ?_; rintro e5 w5 ⟨v5, D5, rfl, hle5, hs5⟩; obtain ⟨a5, c5, rfl⟩ := (hs5.front 1 rfl).own_shape; have vC := Eh hle5; have uZ := Eh hs5; clear hle5 hs5 HP x0 x1 x2 x3 x4 x5)
  obtain ⟨x0, x1, x2, x3, x4, x5⟩ := eD (uZ.out.blk 3 rfl)
  have vx := Eh (aG (uZ.out.blk 2 rfl))
  have HR := Eh (uM (on : Int) (HD.out.mono vC.out) wZ.out zw.out uZ.out)
  go_upto_region 15 with (first | (refine ai rfl _ _ rfl _ _ rfl [_, _, _, _, _] vx.out ?_) | (go_at_call 59; refine HR.out.mono ?_; rintro e6 w6 ⟨v6, iv6, D6, rfl, hle6, hd6, hs6⟩; obtain ⟨a6, c6, rfl⟩ := hs6.own_shape; obtain ⟨z0, z1, z2, z3, z4, rfl, hz⟩ := eY hd6; have HZ := Eh hz; have yb := Eh hd6; have vF := Eh hle6; have vi := Eh (hs6.alloc #[z0, z1, z2, z3, z4] aQ); clear hle6 hs6 hd6 hz HR vx uZ x0 x1 x2 x3 x4 x5) | (refine ax rfl _ _ _ rfl [z0, z1, z2, z3, z4] _ _ rfl rfl (by kernel_rfl) rfl HZ.out ?_))
  obtain ⟨W7, hW7, hs7⟩ := Sat.hide vi.out
  rw [← hW7]
  clear hW7 vi
  generalize w6.heap.size = bn at hs7 ⊢
  have vK := Eh (aG (w := W7.drew) (hs7.drew.blk 0 rfl))
  obtain ⟨rb, hrb⟩ : ∃ rb, decide ((fM m on).2 = (jj d on).2) = rb := ⟨_, rfl⟩
  have wX := Eh (jW (hs7.drew.own 3 rfl).rd (hs7.drew.own 1 rfl).rd hrb)
  have yd := Eh hrb
  have vn := Eh hs7.drew
  clear hs7 hrb
  refine ag [(0, false, 4), (1, false, 3), (2, false, 3), (3, true, 0), (4, true, 0), (5, false, 999)] (by kernel_rfl) (by kernel_rfl) ?_
  iterate 3 (refine af rfl rfl (fun K hK => ?_); (first | ((refine aj _ _ rfl _ _ rfl _ vK.out ?_); go_simp) | go_simp); refine hK _ ?_; clear hK K)
  refine al rfl ?_
  refine aw rfl (fun K hK => ?_)
  go_simp
  refine wX.out.mono ?_
  rintro e8 w8 ⟨rfl, hk8⟩
  have vw := Eh ((vn.out.kept hk8).front 6 rfl)
  clear hk8 vn wX vK
  obtain ⟨q0, q1, q2, q3, q4, qf⟩ := aT (vw.out.blk 1 rfl)
  refine hK _ _ ?_
  clear hK K
  refine wpList_nil ?_
  refine And.intro ?_ ?_
  ·go_simp
  refine al rfl ?_
  refine ap rfl _ _ _ rfl aQ b3 rfl [z0, z1, z2, z3, z4] rfl cp vw.out (by kernel_rfl) rfl HZ.out ?_
  intro w9 hs9
  have vq := Eh hs9
  clear hs9 vw q0 q1 q2 q3 q4 qf
  refine wpList_nil ?_
  refine And.intro ?_ ?_
  ·go_simp
  refine af rfl rfl (fun K hK => ?_); (first | ((refine aj _ _ rfl _ _ rfl _ vK.out ?_); go_simp) | go_simp); refine hK _ ?_; clear hK K
  refine ar ?_
  go_wp2_with fail
  refine bodyPost_ret (aL rfl _ _ rfl (aG (vq.out.blk 0 rfl))) rfl ?_
  rw [Ac.out, xA.out]
  dsimp only
  rw [yd.out]
  refine ⟨_, D6, rfl, vC.out.trans vF.out, yb.out, ?_⟩
  exact bK (vq.out.drop.drop.drop.swap.drop.swap.drop.swap.drop) vF.out
 ·skip
  have xA := Eh (show ex ts room m d kn on a.x.c a.dur a.hand = ((et m on).1, (eu d on).1, decide ((et m on).2 = (eu d on).2)) by unfold ex; rw [if_neg (by omega), if_neg (by omega), if_neg (by omega), if_pos hk])
  subst hk
  go_enter Tryz.func24, Tryz.ntmps24
  go_upto_region 1 with fail
  rw [← uW.out]
  clear uW
  generalize w.heap.size + 1 + 1 = b3 at *
  generalize w.heap.size + 1 = b2 at *
  generalize w.heap.size = b1 at *
  obtain ⟨x0, x1, x2, x3, x4, x5⟩ := eD (uX.out.blk 2 rfl)
  go_upto_region 17 with fail
  have HP := Eh (Leave_L (on : Int) HE.out HM.out uX.out)
  clear uX hon
  go_upto_region 18 with (go_at_call 37; refine HP.out.mono ?_; rintro e5 w5 ⟨v5, D5, rfl, hle5, hs5⟩; obtain ⟨a5, c5, rfl⟩ := (hs5.front 1 rfl).own_shape; have vC := Eh hle5; have uZ := Eh hs5; clear hle5 hs5 HP x0 x1 x2 x3 x4 x5)
  obtain ⟨x0, x1, x2, x3, x4, x5⟩ := eD (uZ.out.blk 3 rfl)
  have vx := Eh (aG (uZ.out.blk 2 rfl))
  have HR := Eh (pJ (on : Int) (HD.out.mono vC.out) wZ.out zw.out uZ.out)
  go_upto_region 19 with (first | (refine ai rfl _ _ rfl _ _ rfl [_, _, _, _, _] vx.out ?_) | (go_at_call 60; refine HR.out.mono ?_; rintro e6 w6 ⟨v6, iv6, D6, rfl, hle6, hd6, hs6⟩; obtain ⟨a6, c6, rfl⟩ := hs6.own_shape; obtain ⟨z0, z1, z2, z3, z4, rfl, hz⟩ := eY hd6; have HZ := Eh hz; have yb := Eh hd6; have vF := Eh hle6; have vi := Eh (hs6.alloc #[z0, z1, z2, z3, z4] aQ); clear hle6 hs6 hd6 hz HR vx uZ x0 x1 x2 x3 x4 x5) | (refine ax rfl _ _ _ rfl [z0, z1, z2, z3, z4] _ _ rfl rfl (by kernel_rfl) rfl HZ.out ?_))
  obtain ⟨W7, hW7, hs7⟩ := Sat.hide vi.out
  rw [← hW7]
  clear hW7 vi
  generalize w6.heap.size = bn at hs7 ⊢
  have vK := Eh (aG (w := W7.drew) (hs7.drew.blk 0 rfl))
  obtain ⟨rb, hrb⟩ : ∃ rb, decide ((et m on).2 = (eu d on).2) = rb := ⟨_, rfl⟩
  have wX := Eh (jW (hs7.drew.own 3 rfl).rd (hs7.drew.own 1 rfl).rd hrb)
  have yd := Eh hrb
  have vn := Eh hs7.drew
  clear hs7 hrb
  refine ag [(0, false, 4), (1, false, 3), (2, false, 3), (3, true, 0), (4, true, 0), (5, false, 999)] (by kernel_rfl) (by kernel_rfl) ?_
  iterate 3 (refine af rfl rfl (fun K hK => ?_); (first | ((refine aj _ _ rfl _ _ rfl _ vK.out ?_); go_simp) | go_simp); refine hK _ ?_; clear hK K)
  refine al rfl ?_
  refine aw rfl (fun K hK => ?_)
  go_simp
  refine wX.out.mono ?_
  rintro e8 w8 ⟨rfl, hk8⟩
  have vw := Eh ((vn.out.kept hk8).front 6 rfl)
  clear hk8 vn wX vK
  obtain ⟨q0, q1, q2, q3, q4, qf⟩ := aT (vw.out.blk 1 rfl)
  refine hK _ _ ?_
  clear hK K
  refine wpList_nil ?_
  refine And.intro ?_ ?_
  ·go_simp
  refine al rfl ?_
  refine ap rfl _ _ _ rfl aQ b3 rfl [z0, z1, z2, z3, z4] rfl cp vw.out (by kernel_rfl) rfl HZ.out ?_
  intro w9 hs9
  have vq := Eh hs9
  clear hs9 vw q0 q1 q2 q3 q4 qf
  refine wpList_nil ?_
  refine And.intro ?_ ?_
  ·go_simp
  refine af rfl rfl (fun K hK => ?_); (first | ((refine aj _ _ rfl _ _ rfl _ vK.out ?_); go_simp) | go_simp); refine hK _ ?_; clear hK K
  refine ar ?_
  go_wp2_with fail
  refine bodyPost_ret (aL rfl _ _ rfl (aG (vq.out.blk 0 rfl))) rfl ?_
  rw [Ac.out, xA.out]
  dsimp only
  rw [yd.out]
  refine ⟨_, D6, rfl, vC.out.trans vF.out, yb.out, ?_⟩
  exact bK (vq.out.drop.drop.drop.swap.drop.swap.drop.swap.drop) vF.out
 ·skip
  have xA := Eh (show ex ts room m d kn on a.x.c a.dur a.hand = ((cW m room (bH ts a.x.c) on a.x.c a.dur a.hand).1, (gQ d on a.x.c a.dur a.hand).1, decide ((cW m room (bH ts a.x.c) on a.x.c a.dur a.hand).2.1 = (gQ d on a.x.c a.dur a.hand).2.1) && decide ((cW m room (bH ts a.x.c) on a.x.c a.dur a.hand).2.2 = (gQ d on a.x.c a.dur a.hand).2.2)) by unfold ex; rw [if_neg (by omega), if_neg (by omega), if_neg (by omega), if_neg (by omega)])
  have e10 : (kn == 10) = false := by simp; omega
  have e11 : (kn == 11) = false := by simp; omega
  have e12 : (kn == 12) = false := by simp; omega
  have e13 : (kn == 13) = false := by simp; omega
  have e14 : (kn == 14) = false := by simp; omega
  have e15 : (kn == 15) = false := by simp; omega
  have xQ := Eh (show m.q.held.length ≤ 100000 by have := HM.out; omega)
  have xx := Eh (show m.q.waits.length ≤ 1000 by have := HM.out; omega)
  clear hk h15
  go_enter Tryz.func24, Tryz.ntmps24
  go_upto_region 1 with fail
  rw [← uW.out]
  clear uW
  generalize w.heap.size + 1 + 1 = b3 at *
  generalize w.heap.size + 1 = b2 at *
  generalize w.heap.size = b1 at *
  obtain ⟨x0, x1, x2, x3, x4, x5⟩ := eD (uX.out.blk 2 rfl)
  go_upto_region 24 with fail
  clear e10 e11 e12 e13 e14 e15
  have vr := Eh (az (g := b2) (o := 2) (fY (uX.out.blk 2 rfl)))
  have HP := Eh (nV (on : Int) a.x a.dur a.hand HE.out HA.out wx.out Bj.out zZ.out xQ.out xx.out BT.out uX.out)
  obtain ⟨P1, hP1⟩ : ∃ P1, cW m room (bH ts a.x.c) on a.x.c a.dur a.hand = P1 := ⟨_, rfl⟩
  obtain ⟨P2, hP2⟩ : ∃ P2, gQ d on a.x.c a.dur a.hand = P2 := ⟨_, rfl⟩
  rw [hP1, hP2] at xA
  rw [hP1] at HP
  have AD := Eh hP2
  obtain ⟨p1, pb, pe⟩ := P1
  obtain ⟨p2, pc, pf⟩ := P2
  clear uX hon hP1 hP2
  go_upto_region 25 with (first | (refine ai rfl _ _ rfl _ _ rfl _ vr.out ?_) | (go_at_call 14; refine HP.out.mono ?_; rintro e5 w5 ⟨D5, rfl, hle5, hs5⟩; have vC := Eh hle5; have uZ := Eh hs5; clear hle5 hs5 HP vr x0 x1 x2 x3 x4 x5))
  obtain ⟨x0, x1, x2, x3, x4, x5⟩ := eD (uZ.out.blk 2 rfl)
  have vx := Eh (aG (uZ.out.blk 1 rfl))
  have vr := Eh (az (g := b2) (o := 2) (fY (uZ.out.blk 2 rfl)))
  have HR := Eh (uU (on : Int) a.x a.dur a.hand (HD.out.mono vC.out) vP.out (HA.out.mono vC.out) HF.out wx.out Bj.out CH.out wZ.out zw.out uZ.out)
  rw [AD.out] at HR
  go_upto_region 26 with (first | (refine ai rfl _ _ rfl _ _ rfl [_, _, _, _, _] vx.out ?_) | (refine ai rfl _ _ rfl _ _ rfl _ vr.out ?_) | (go_at_call 62; refine HR.out.mono ?_; rintro e6 w6 ⟨v6, D6, rfl, hle6, hd6, hs6⟩; obtain ⟨z0, z1, z2, z3, z4, rfl, hz⟩ := eY hd6; have HZ := Eh hz; have yb := Eh hd6; have vF := Eh hle6; have vi := Eh (hs6.alloc #[z0, z1, z2, z3, z4] aQ); clear hle6 hs6 hd6 hz HR vx vr uZ x0 x1 x2 x3 x4 x5) | (refine ax rfl _ _ _ rfl [z0, z1, z2, z3, z4] _ _ rfl rfl (by kernel_rfl) rfl HZ.out ?_))
  obtain ⟨W7, hW7, hs7⟩ := Sat.hide vi.out
  rw [← hW7]
  clear hW7 vi
  generalize w6.heap.size = bn at hs7 ⊢
  have vK := Eh (aG (hs7.blk 0 rfl))
  have vn := Eh (hs7.front 4 rfl)
  clear hs7
  have BU := Eh (show (pb == pc) = decide (pb = pc) from by cases pb <;> cases pc <;> rfl)
  cases hbe : (pb == pc)
  ·have yd := Eh (show (decide (pb = pc) && decide (pe = pf)) = false by rw [← BU.out, hbe]; rfl)
   go_wp2_with (first | (refine ai rfl _ _ rfl _ _ rfl [_, _, _, _, _] vK.out ?_) | (refine ap rfl _ _ _ rfl aQ b3 rfl [z0, z1, z2, z3, z4] rfl cp vn.out (by kernel_rfl) rfl HZ.out ?_; intro w9 hs9; have vq := Eh hs9; clear hs9 vn vK))
   refine bodyPost_ret (aL rfl _ _ rfl (aG (vq.out.blk 0 rfl))) rfl ?_
   rw [Ac.out, xA.out]
   dsimp only
   rw [yd.out]
   refine ⟨_, D6, rfl, vC.out.trans vF.out, yb.out, ?_⟩
   exact bK (vq.out.drop.drop.swap.drop.swap.drop) vF.out
  ·cases hee : (pe == pf)
   ·have yd := Eh (show (decide (pb = pc) && decide (pe = pf)) = false by rw [← BU.out, hbe]; simp at hee; simp [hee])
    go_wp2_with (first | (refine ai rfl _ _ rfl _ _ rfl [_, _, _, _, _] vK.out ?_) | (refine ap rfl _ _ _ rfl aQ b3 rfl [z0, z1, z2, z3, z4] rfl cp vn.out (by kernel_rfl) rfl HZ.out ?_; intro w9 hs9; have vq := Eh hs9; clear hs9 vn vK))
    refine bodyPost_ret (aL rfl _ _ rfl (aG (vq.out.blk 0 rfl))) rfl ?_
    rw [Ac.out, xA.out]
    dsimp only
    rw [yd.out]
    refine ⟨_, D6, rfl, vC.out.trans vF.out, yb.out, ?_⟩
    exact bK (vq.out.drop.drop.swap.drop.swap.drop) vF.out
   ·have yd := Eh (show (decide (pb = pc) && decide (pe = pf)) = true by rw [← BU.out, hbe]; simp at hee; simp [hee])
    go_wp2_with (first | (refine ai rfl _ _ rfl _ _ rfl [_, _, _, _, _] vK.out ?_) | (refine ap rfl _ _ _ rfl aQ b3 rfl [z0, z1, z2, z3, z4] rfl cp vn.out (by kernel_rfl) rfl HZ.out ?_; intro w9 hs9; have vq := Eh hs9; clear hs9 vn vK))
    refine bodyPost_ret (aL rfl _ _ rfl (aG (vq.out.blk 0 rfl))) rfl ?_
    rw [Ac.out, xA.out]
    dsimp only
    rw [yd.out]
    refine ⟨_, D6, rfl, vC.out.trans vF.out, yb.out, ?_⟩
    exact bK (vq.out.drop.drop.swap.drop.swap.drop) vF.out
end Go.Proofs.YtgljdkjepdknnaaGreatDoor
