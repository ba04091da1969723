/- Asking, over claims. (printed by genaskc.py) -/
import Derived.Test.YtgljdkjepdknnaaGreatDoorML11
import Derived.Test.YtgljdkjepdknnaaGreatDoorML12
set_option maxHeartbeats 64000000
namespace Go.Proofs.YtgljdkjepdknnaaGreatDoor
open Go.ChangeShapes Go.WideShapes Go.ChangeAt Go.RowKit
set_option maxRecDepth 100000
set_option linter.unusedSimpArgs false
theorem iS {B w : World} {D D' : PH} {l : List HP} {q : Nat} {Q : Qm Clm} {D0 : PH} (h : Sat B D0 w (bZ D q Q :: l)) (le : PH.le D D') : Sat B D0 w (bZ D' q Q :: l) :=
 h.weaken (fun _ ⟨x, ⟨h1, h2⟩, H⟩ => ⟨x, ⟨⟨h1.1, fun e he => (h1.2 e he).mono le⟩, ⟨h2.1, fun e he => (h2.2 e he).mono le⟩⟩, H⟩)
theorem lU (w : World) (n : Int) (x : ClmE) : (Instr.build bg #[(0, .int .i64 n), (1, .agg x.cells.toArray)]).run Tryz.prog w = .ok (.agg (ay (mkC n x false)).toArray) w := run_build w _ _ _ (by kernel_rfl)
theorem eF {w : World} {o : Oper} {a : Act} {ops : Array Oper} {rest : List Oper} {Q : Exit → Act → World → Prop} (hgd : o.guard = none) (xo xc : Operand) (ho : o.op = .build bg #[(0, xo), (1, xc)]) (n : Int) (x : ClmE) (h1 : a.eval xo = .int .i64 n) (h2 : a.eval xc = .agg x.cells.toArray)
  (h : wpList Tryz.prog ops Q rest (a.put o.dst (.agg (ay (mkC n x false)).toArray)) w) : wpList Tryz.prog ops Q (o :: rest) a w :=
 wpList_plain hgd fun _ hK => by
  have hrun := lU w n x
  unfold Oper.wp execOp
  simp only [ho, List.map_toArray, List.map_cons, List.map_nil, h1, h2, Sem.run_bind, Sem.run_pure, Result.andThen_ok, hrun]
  exact hK _ _ h
theorem ky {w : World} {g o : Nat} {e : EntE} (h : w.rangeAt g o (ay e)) : w.rangeAt g (o + 1) e.x.cells := fun j v hv => by
 have hj : j < 16 := by have := (List.getElem?_eq_some_iff.1 hv).1; rwa [ClmE.len] at this
 have := h (1 + j) v (by
  rw [← hv, show 1 + j = j + 1 by omega]
  simp only [ay, List.getElem?_cons_succ]
  show (e.x.cells ++ [.bool e.more])[j]? = _
  rw [List.getElem?_append_left (by rw [ClmE.len]; exact hj)])
 rw [← Nat.add_assoc] at this
 exact this
theorem mq (n : Int) (x z : ClmE) (b : Bool) : lay (ay (mkC n x b)) 1 z.cells = ay (mkC n z b) := rfl
theorem Sat.setMore {B w : World} {D : PH} {l : List HP} {b : Nat} {n : Int} {x : ClmE} {m : Bool} (hs : Sat B D w (Proofs.YtgljdkjepdknnaaGreatDoor.blk b (ay (mkC n x m)).toArray bg :: l)) (u : Bool) : Sat B D (w.setCell ⟨b, 17, none⟩ (.bool u)) (Proofs.YtgljdkjepdknnaaGreatDoor.blk b (ay (mkC n x u)).toArray bg :: l) := hs.set 17 (.bool u)
def pN (B : World) (D : PH) (l : List HP) (q : Nat) (R : Qm Clm × Bool) (r : Ending) (w' : World) : Prop := ∃ D' : PH, r = .returned (.bool R.2) ∧ PH.le D D' ∧ Sat B D' w' (bZ D' q R.1 :: l)
theorem ask_C {B w : World} {D : PH} {l : List HP} {q : Nat} {Q : Qm Clm} (o : Int) (c : ClmE) (b : Bool) (hD : EnvD D) (hc : ClOk D c) (hsm : ClmSm 1000000 c.c) (hqs : ∀ e ∈ Q.held, ClmSm 1000000 e.c) (hh : Q.held.length ≤ 100000) (hww : Q.waits.length ≤ 1000) (h : Sat B D w (bZ D q Q :: l)) :
  Calls Tryz.prog 87 #[.pointer (some ⟨q, 0, none⟩), .int .i64 o, cvC c, .bool b] w (pN B D l q (bj RC Q o (cdC c) b)) := by
 obtain ⟨i0, hi, hz0, hz1, hz2⟩ := info_parts oA
 have HI := Eh (And.intro hi (And.intro hz0 (And.intro hz1 hz2)))
 clear hi hz0 hz1 hz2
 obtain ⟨W0, hW0, hs0⟩ : ∃ W, W = w.alloc (.cells c.cells.toArray tCl) ∧ Sat B D W (bZ D q Q :: blk w.heap.size c.cells.toArray tCl :: l) := ⟨_, rfl, (h.alloc _ _).swap⟩
 have xB := Eh hW0
 have By := Eh hD
 have HC := Eh hc
 have wx := Eh hsm
 have zZ := Eh hqs
 have HS := Eh hs0
 have HW := Eh (jD o hs0)
 clear h hD hW0 hs0 hc hsm hqs
 rcases qk Q.waits o with ⟨hw, hk⟩ | ⟨hw, hk⟩
 ·have vy := Eh (show bj RC Q o (cdC c) b = (Q, false) by unfold bj; rw [if_pos hw])
  rw [vy.out]
  generalize cz (ofE o) Q.waits = k at *
  clear hw
  go_enter Tryz.func87, Tryz.ntmps87
  go_upto_region 1 with fail
  rw [← xB.out]
  clear xB
  generalize w.heap.size = bc at *
  go_wp2_with (go_at_call 82; refine HW.out.mono ?_; rintro e1 w1 ⟨rfl, hk1⟩; have uX := Eh (HS.out.kept hk1); clear hk1 HS HW)
  go_ret
  exact ⟨D, rfl, PH.le.refl _, uX.out.swap.drop⟩
 rw [hk] at HW
 have AQ := Eh hw
 clear hk hw
 rcases iz (R := RC) Q.held o (cdC c) with ⟨k, ho, hk, hlt⟩ | ⟨ho, hk⟩
 ·obtain ⟨x0, hx0⟩ : ∃ x, Q.held[k]? = some x := ⟨Q.held[k], List.getElem?_eq_getElem hlt⟩
  have z6 := Eh hx0
  have HO := Eh ho
  have HK := Eh hk
  clear hx0 ho hk
  cases hcv : RC.cov x0.c (cdC c)
  ·have xq := Eh (show dj RC Q o (cdC c) = some (⟨o, RC.join x0.c (cdC c), true⟩, cA Q.waits) by unfold dj; simp only [HO.out, z6.out, hcv]; simp)
   have vE := Eh hcv
   clear hcv
   go_enter Tryz.func87, Tryz.ntmps87
   go_upto_region 1 with fail
   rw [← xB.out]
   clear xB
   generalize w.heap.size = bc at *
   go_upto_region 3 with (go_at_call 82; refine HW.out.mono ?_; rintro e1 w1 ⟨rfl, hk1⟩; have uX := Eh (HS.out.kept hk1); clear hk1 HS HW)
   have vr := Eh (az (ak (uX.out.blk 1 rfl)))
   have vg := Eh (uX.out.alloc (ay (mkC o c false)).toArray bg)
   clear uX
   go_upto_region 4 with (first | (refine ai rfl _ _ rfl _ _ rfl _ vr.out ?_) | (refine eF rfl _ _ rfl o c rfl rfl ?_) | (refine ax rfl _ _ _ rfl (ay (mkC o c false)) _ _ rfl rfl (by kernel_rfl) rfl (eE _) ?_))
   clear vr
   obtain ⟨W2, hW2, hs2⟩ := Sat.hide vg.out
   rw [← hW2]
   clear hW2 vg
   generalize w1.heap.size = bz at hs2 ⊢
   have vg := Eh hs2.swap
   have vr := Eh (az (ak (hs2.blk 2 rfl)))
   obtain ⟨hv, wv, hs, ws, hr1, hr2, h2⟩ := aU hs2.swap
   obtain ⟨wa, wc, rfl⟩ := (h2.front 2 rfl).own_shape
   obtain ⟨c0, c1, c2, c3, c4, c5, cf⟩ := aX (h2.blk 0 rfl)
   generalize ws.length = nw at c5
   clear hs2 h2 hr1 hr2
   go_upto_region 6 with (first | (refine ai rfl _ _ rfl _ _ rfl _ vr.out ?_) | (go_at_call 133; refine (rp o c (PH.le.refl _) HC.out vg.out).mono ?_; rw [HK.out]; rintro e3 w3 ⟨rfl, hk3⟩; have vi := Eh (vg.out.kept hk3); clear hk3 vg vr c0 c1 c2 c3 c4 c5 cf))
   obtain ⟨hv, wv, hs, ws, hr1, hr2, h1⟩ := aU vi.out
   obtain ⟨x, hx, hxe⟩ : ∃ x, hs[k]? = some x ∧ aE x = x0 := by
    have hx0 := z6.out
    rw [← hr1.1, List.getElem?_map] at hx0
    cases hxx : hs[k]? with
    | none => rw [hxx] at hx0; cases hx0
    | some x => rw [hxx] at hx0; exact ⟨x, rfl, Option.some.inj hx0⟩
   have yA := Eh (show x.x.c = x0.c by rw [← hxe])
   have xG := Eh (show ClOk D x.x from hr1.2 x (List.mem_of_getElem? hx))
   obtain ⟨ha, hcp, rfl⟩ := (h1.front 1 rfl).own_shape
   obtain ⟨g, og, rfl, hrng⟩ := aF bT (h1.own 1 rfl).rd hx rfl
   have wY := Eh (az (ky hrng))
   obtain ⟨c0, c1, c2, c3, c4, c5, cf⟩ := aX (h1.blk 0 rfl)
   have hkl : (k : Int) < (hs.length : Int) := by have := (List.getElem?_eq_some_iff.1 hx).1; omega
   generalize hs.length = nh at c4 hkl
   clear hr1 hr2 h1 hx hxe hrng
   have vn := Eh ((vi.out.alloc x.x.cells.toArray tCl).swap)
   go_upto_region 8 with (first | (refine ai rfl _ _ rfl _ _ rfl _ wY.out ?_) | (refine ax rfl _ _ _ rfl x.x.cells _ _ rfl rfl (by kernel_rfl) rfl (ClmE.one _) ?_))
   clear wY vi c0 c1 c2 c3 c4 c5 cf
   obtain ⟨W7, hW7, hs7⟩ := Sat.hide vn.out
   rw [← hW7]
   clear hW7 vn
   generalize w3.heap.size = bh at hs7 ⊢
   have vn := Eh (show Sat B D W7 (bZ D q Q :: blk bh x.x.cells.toArray tCl :: blk bz (ay (mkC o c false)).toArray bg :: blk bc c.cells.toArray tCl :: l) from hs7)
   clear hs7
   obtain ⟨hv, wv, hs, ws, hr1, hr2, h3⟩ := aU vn.out
   obtain ⟨c0, c1, c2, c3, c4, c5, cf⟩ := aX (h3.blk 0 rfl)
   clear hr1 hr2 h3
   have wY := Eh (az (w := W7.drew) (ak (vn.out.drew.blk 1 rfl)))
   have vr := Eh (az (w := W7.drew) (ak (vn.out.drew.blk 3 rfl)))
   have wT := Eh (cov_C (By.out.env vn.out.drew) (xG.out.rd vn.out.drew) (HC.out.rd vn.out.drew))
   rw [yA.out, vE.out] at wT
   refine ag [(0, false, 7), (1, false, 7), (2, false, 7), (3, false, 7), (4, false, 7), (5, false, 7), (6, false, 7), (7, true, 0)] (by kernel_rfl) (by kernel_rfl) ?_
   iterate 7 (refine af rfl rfl (fun K hK => ?_); (first | ((refine aj _ _ rfl _ _ rfl _ wY.out ?_); go_simp) | ((refine aj _ _ rfl _ _ rfl _ vr.out ?_); go_simp) | go_simp); refine hK _ ?_; clear hK K)
   refine al rfl ?_
   refine aw rfl (fun K hK => ?_)
   go_simp
   refine wT.out.mono ?_
   rintro e4 w4 ⟨rfl, hk4⟩
   have vw := Eh (vn.out.drew.kept hk4)
   clear hk4 vn wT wY vr c0 c1 c2 c3 c4 c5 cf
   obtain ⟨hv, wv, hs, ws, hr1, hr2, h3⟩ := aU vw.out
   obtain ⟨c0, c1, c2, c3, c4, c5, cf⟩ := aX (h3.blk 0 rfl)
   clear hr1 hr2 h3
   have wY := Eh (az (ak (vw.out.blk 1 rfl)))
   have vr := Eh (az (ak (vw.out.blk 3 rfl)))
   refine hK _ _ ?_
   clear hK K
   refine wpList_nil ?_
   refine And.intro ?_ ?_
   ·go_simp
   refine ar ?_
   go_upto_region 10 with fail
   have Bf := Eh (join_C (By.out) xG.out HC.out (by rw [yA.out]; exact zZ.out x0 (List.mem_of_getElem? z6.out)) wx.out vw.out.drew)
   rw [yA.out] at Bf
   clear wY vr
   have wY := Eh (az (w := w4.drew) (ak (vw.out.drew.blk 1 rfl)))
   have vr := Eh (az (w := w4.drew) (ak (vw.out.drew.blk 3 rfl)))
   refine ag [(0, false, 7), (1, false, 7), (2, false, 7), (3, false, 7), (4, false, 7), (5, false, 7), (6, false, 7), (7, true, 0), (8, false, 9), (9, true, 0), (10, false, 11), (11, true, 0)] (by kernel_rfl) (by kernel_rfl) ?_
   iterate 7 (refine af rfl rfl (fun K hK => ?_); (first | ((refine aj _ _ rfl _ _ rfl _ wY.out ?_); go_simp) | ((refine aj _ _ rfl _ _ rfl _ vr.out ?_); go_simp) | go_simp); refine hK _ ?_; clear hK K)
   refine al rfl ?_
   refine aw rfl (fun K hK => ?_)
   go_simp
   refine Bf.out.mono ?_
   rintro e5 w5 ⟨z, D5, rfl, hzc, hle5, hok5, hs5⟩
   have yk := Eh hzc
   have wB := Eh hle5
   have Cq := Eh hok5
   have uZ := Eh (show Sat B D5 w5 (blk bz (ay (mkC o c false)).toArray bg :: bZ D5 q Q :: blk bc c.cells.toArray tCl :: l) from ((iS hs5 hle5).swap.drop).swap)
   clear hzc hle5 hok5 hs5 Bf wY vr vw c0 c1 c2 c3 c4 c5 cf
   refine hK _ _ ?_
   clear hK K
   refine wpList_nil ?_
   refine And.intro ?_ ?_
   ·go_simp
   refine af rfl rfl (fun K hK => ?_); (first | ((refine aj _ _ rfl _ _ rfl _ wY.out ?_); go_simp) | ((refine aj _ _ rfl _ _ rfl _ vr.out ?_); go_simp) | go_simp); refine hK _ ?_; clear hK K
   refine al rfl ?_
   refine bm rfl _ _ _ rfl bg bz 1 rfl z.cells rfl (ay (mkC o c false)) uZ.out (by kernel_rfl) (by rw [bT, ClmE.len]; decide) (ClmE.one z) ?_
   intro w6 hs6
   rw [mq] at hs6
   have z17 := (ei (hs6.blk 0 rfl)).2
   have zf := frz (hs6.blk 0 rfl)
   have vi := Eh (Sat.setMore hs6 true)
   clear hs6 uZ
   refine wpList_nil ?_
   refine And.intro ?_ ?_
   ·go_simp
   refine af rfl rfl (fun K hK => ?_); (first | ((refine aj _ _ rfl _ _ rfl _ wY.out ?_); go_simp) | ((refine aj _ _ rfl _ _ rfl _ vr.out ?_); go_simp) | go_simp); refine hK _ ?_; clear hK K
   refine al rfl ?_
   refine wpList_plain rfl (fun K hK => ?_)
   go_simp
   refine hK _ _ ?_
   clear hK K
   refine wpList_nil ?_
   refine And.intro ?_ ?_
   ·go_simp
   refine ar ?_
   obtain ⟨W9, hW9, hs9⟩ := Sat.hide vi.out
   (try rw [← hW9])
   clear hW9 vi
   obtain ⟨en, hen⟩ : ∃ en : EntE, en = mkC o z true := ⟨_, rfl⟩
   have xH := Eh (show ∀ b, bj RC Q o (cdC c) b = if d7 RC Q o (aE en).c (Q.waits.take (cA Q.waits)) then (cP RC Q (aE en), true) else if b then (⟨Q.held, Q.waits.take (cA Q.waits) ++ [aE en] ++ Q.waits.drop (cA Q.waits)⟩, false) else (Q, false) from fun b => kK (e := aE en) AQ.out (by rw [hen, xq.out, show aE (mkC o z true) = ⟨o, z.c, true⟩ from rfl, yk.out]))
   have yC := Eh (show en.o = o by rw [hen])
   have vP := Eh (show OkC D5 en by rw [hen]; exact Cq.out)
   have HD := Eh (By.out.mono wB.out)
   have vu := Eh (show Sat B D5 W9 (bZ D5 q Q :: blk bz (ay en).toArray bg :: blk bc c.cells.toArray tCl :: l) from by rw [hen]; exact hs9.swap)
   clear hs9 xq hen
   go_upto_region 12 with (go_at_call 134; refine (mores_C vu.out).mono ?_; rintro e6 w6 ⟨rfl, rfl⟩)
   have hat0 : cA Q.waits ≤ Q.waits.length := fX _
   generalize cA Q.waits = at_ at *
   have uZ := Eh vu.out
   clear vu
   cases hf : d7 RC Q o (aE en).c (Q.waits.take at_)
   ·have HF := Eh hf
    cases b
    ·have vy := Eh (show bj RC Q o (cdC c) false = (Q, false) by rw [xH.out false, hf]; simp)
     clear hf
     (try go_upto_region 12 with fail)
     obtain ⟨hv, wv, hs, ws, hr1, hr2, h2⟩ := aU uZ.out.drew
     obtain ⟨wa, wc, rfl⟩ := (h2.front 2 rfl).own_shape
     have hwl : ws.length = Q.waits.length := by rw [← hr2.1, List.length_map]
     have hat : at_ ≤ ws.length := by omega
     have vk := Eh (Rd.takeE bT (h2.own 2 rfl).rd (m := at_) hat rfl)
     have wG := Eh (fun (x : EntE) (hx : x ∈ ws.take at_) => (hr2.2 x (List.mem_of_mem_take hx) : ClOk D5 x.x))
     have wP := Eh (show (ws.take at_).map aE = Q.waits.take at_ by rw [List.map_take, hr2.1])
     have HL := Eh (dy (ak (h2.blk 3 rfl)))
     obtain ⟨c0, c1, c2, c3, c4, c5, cf⟩ := aX (h2.blk 0 rfl)
     have hws : ws.length ≤ wc := by obtain ⟨_, _, _, _, hx, hy, _⟩ := (h2.own 2 rfl).rd; cases hx; exact hy
     have hb1 : (at_ : Int) ≤ (wc : Int) := by omega
     have hmap : Option.map (fun x => Addr.add x 0) wa = wa := by rcases (h2.own 2 rfl).2.2 with ⟨hx, _⟩ | ⟨g, c2, cur, hx, _⟩ <;> rw [(Value.slice.inj hx).1] <;> first | rfl | simp [cn]
     generalize hN : ws.length = N at *
     clear hr1 hr2 h2 hwl hN hws
     refine ag [(0, false, 8), (1, false, 8), (2, false, 8), (3, false, 8), (4, false, 8), (5, false, 8), (6, false, 8), (7, false, 8), (8, true, 0)] (by kernel_rfl) (by kernel_rfl) ?_
     iterate 8 (refine af rfl rfl (fun K hK => ?_); (first | ((refine aj _ _ rfl _ _ rfl _ HL.out ?_); go_simp) | go_simp); refine hK _ ?_; clear hK K)
     refine al rfl ?_
     refine aw rfl (fun K hK => ?_)
     go_simp
     refine (fO en (HD.out.env uZ.out.drew) (PH.le.refl _) vP.out wG.out vk.out uZ.out.drew).mono ?_
     rw [wP.out, yC.out, HF.out]
     rintro e6 w6 ⟨rfl, hk6⟩
     have vi := Eh (uZ.out.drew.kept hk6)
     clear hk6 uZ HL vk wG c0 c1 c2 c3 c4 c5 cf hb1 hmap wP HF
     refine hK _ _ ?_
     clear hK K
     refine wpList_nil ?_
     refine And.intro ?_ ?_
     ·go_simp
     refine ar ?_
     go_wp2_with fail
     go_ret
     rw [vy.out]
     exact ⟨D5, rfl, wB.out, vi.out.swap.drop.swap.drop⟩
    ·have vy := Eh (show bj RC Q o (cdC c) true = (⟨Q.held, Q.waits.take at_ ++ [aE en] ++ Q.waits.drop at_⟩, false) by rw [xH.out true, hf]; simp)
     clear hf
     (try go_upto_region 12 with fail)
     obtain ⟨hv, wv, hs, ws, hr1, hr2, h2⟩ := aU uZ.out.drew
     obtain ⟨wa, wc, rfl⟩ := (h2.front 2 rfl).own_shape
     have hwl : ws.length = Q.waits.length := by rw [← hr2.1, List.length_map]
     have hat : at_ ≤ ws.length := by omega
     have vk := Eh (Rd.takeE bT (h2.own 2 rfl).rd (m := at_) hat rfl)
     have wG := Eh (fun (x : EntE) (hx : x ∈ ws.take at_) => (hr2.2 x (List.mem_of_mem_take hx) : ClOk D5 x.x))
     have wP := Eh (show (ws.take at_).map aE = Q.waits.take at_ by rw [List.map_take, hr2.1])
     have HL := Eh (dy (ak (h2.blk 3 rfl)))
     obtain ⟨c0, c1, c2, c3, c4, c5, cf⟩ := aX (h2.blk 0 rfl)
     have hws : ws.length ≤ wc := by obtain ⟨_, _, _, _, hx, hy, _⟩ := (h2.own 2 rfl).rd; cases hx; exact hy
     have hb1 : (at_ : Int) ≤ (wc : Int) := by omega
     have hmap : Option.map (fun x => Addr.add x 0) wa = wa := by rcases (h2.own 2 rfl).2.2 with ⟨hx, _⟩ | ⟨g, c2, cur, hx, _⟩ <;> rw [(Value.slice.inj hx).1] <;> first | rfl | simp [cn]
     generalize hN : ws.length = N at *
     clear hr1 hr2 h2 hwl hN hws
     refine ag [(0, false, 8), (1, false, 8), (2, false, 8), (3, false, 8), (4, false, 8), (5, false, 8), (6, false, 8), (7, false, 8), (8, true, 0)] (by kernel_rfl) (by kernel_rfl) ?_
     iterate 8 (refine af rfl rfl (fun K hK => ?_); (first | ((refine aj _ _ rfl _ _ rfl _ HL.out ?_); go_simp) | go_simp); refine hK _ ?_; clear hK K)
     refine al rfl ?_
     refine aw rfl (fun K hK => ?_)
     go_simp
     refine (fO en (HD.out.env uZ.out.drew) (PH.le.refl _) vP.out wG.out vk.out uZ.out.drew).mono ?_
     rw [wP.out, yC.out, HF.out]
     rintro e6 w6 ⟨rfl, hk6⟩
     have vi := Eh (uZ.out.drew.kept hk6)
     clear hk6 uZ HL vk wG c0 c1 c2 c3 c4 c5 cf hb1 hmap wP HF
     refine hK _ _ ?_
     clear hK K
     refine wpList_nil ?_
     refine And.intro ?_ ?_
     ·go_simp
     refine ar ?_
     obtain ⟨hv, wv, hs, ws, hr1, hr2, h2⟩ := aU vi.out
     obtain ⟨wa, wc, rfl⟩ := (h2.front 2 rfl).own_shape
     have hwl : ws.length = Q.waits.length := by rw [← hr2.1, List.length_map]
     have HL := Eh (dy (ak (h2.drew.blk 3 rfl)))
     obtain ⟨c0, c1, c2, c3, c4, c5, cf⟩ := aX (h2.blk 0 rfl)
     have wL := Eh hr1
     have vZ := Eh hr2
     have hNb : ws.length ≤ 100000 := by omega
     have hat : at_ ≤ ws.length := by omega
     have vn := Eh (show Sat B D5 w6 (qbC q hv (.slice wa ws.length wc) :: bN hv hs :: aI bg 18 (.slice wa ws.length wc) ws.length (ws.flatMap ay) :: blk bz (ay en).toArray bg :: blk bc c.cells.toArray tCl :: l) from h2)
     generalize hN : ws.length = N at *
     have HN := Eh hN
     clear hr1 hr2 h2 hwl hN vi
     go_upto_region 16 with fail
     refine ag [(0, false, 11), (1, false, 8), (2, false, 8), (3, false, 8), (4, false, 8), (5, false, 8), (6, false, 7), (7, true, 0), (8, true, 0), (9, false, 11), (10, false, 11), (11, true, 0)] (by kernel_rfl) (by kernel_rfl) ?_
     iterate 7 (refine af rfl rfl (fun K hK => ?_); (first | ((refine aj _ _ rfl _ _ rfl _ HL.out ?_); go_simp) | go_simp); refine hK _ ?_; clear hK K)
     refine al rfl ?_
     refine aD rfl _ _ rfl bg i0 _ (ay en) rfl Tryz.underlying108 HI.out.1 HI.out.2.1 (HI.out.2.2.1.trans rfl) (by rw [bT]; decide) (by rw [bT]; decide) ?_
     refine wpList_nil ?_
     obtain ⟨W8, hW8, hs8⟩ := Sat.hide (vn.out.drew.alloc (ay en).toArray bg)
     rw [← hW8]
     clear hW8 vn HL c0 c1 c2 c3 c4 c5 cf
     generalize w6.drew.heap.size = by_ at hs8 ⊢
     obtain ⟨c0, c1, c2, c3, c4, c5, cf⟩ := aX (hs8.blk 1 rfl)
     have vw := Eh (show Sat B D5 W8 (aI bg 18 (.slice wa N wc) N (ws.flatMap ay) :: blk by_ (ay en).toArray bg :: qbC q hv (.slice wa N wc) :: bN hv hs :: blk bz (ay en).toArray bg :: blk bc c.cells.toArray tCl :: l) from hs8.front 3 rfl)
     clear hs8
     refine And.intro ?_ ?_
     ·go_simp
     refine al rfl ?_
     refine aw rfl (fun K hK => ?_)
     go_simp
     refine (nN (i := at_) hat (bT en) (eE en) by_ (by omega) vw.out).mono ?_
     rintro e9 w9 ⟨v9, rfl, hs9⟩
     rw [oQ bT] at hs9
     obtain ⟨va, vc, rfl⟩ := hs9.own_shape
     clear c0 c1 c2 c3 c4 c5 cf vw
     obtain ⟨c0, c1, c2, c3, c4, c5, cf⟩ := aX (hs9.blk 2 rfl)
     have vu := Eh (Sat.set6 (hs9.front 2 rfl) (.slice va (N + 1) vc))
     clear hs9
     refine hK _ _ ?_
     clear hK K
     refine wpList_nil ?_
     refine And.intro ?_ ?_
     ·go_simp
     iterate 2 (refine af rfl rfl (fun K hK => ?_); (first | ((refine aj _ _ rfl _ _ rfl _ HL.out ?_); go_simp) | go_simp); refine hK _ ?_; clear hK K)
     refine al rfl ?_
     refine wpList_plain rfl (fun K hK => ?_)
     go_simp
     refine hK _ _ ?_
     clear hK K
     refine wpList_nil ?_
     refine And.intro ?_ ?_
     ·go_simp
     refine ar ?_
     go_wp2_with fail
     go_ret
     rw [vy.out]
     refine ⟨D5, rfl, wB.out, ?_⟩
     have h7 := (vu.out.front 2 rfl).drop
     have h8 : Sat B D5 (w9.setCell ⟨q, 5, none⟩ (.slice va (N + 1) vc)) (qbC q hv (.slice va (N + 1) vc) :: bN hv hs :: bN (.slice va (N + 1) vc) (ws.take at_ ++ [en] ++ ws.drop at_) :: blk bz (ay en).toArray bg :: blk bc c.cells.toArray tCl :: l) := by
      show Sat B D5 _ (qbC q _ _ :: bN hv hs :: aI bg 18 _ (ws.take at_ ++ [en] ++ ws.drop at_).length _ :: _)
      rw [show (ws.take at_ ++ [en] ++ ws.drop at_).length = N + 1 by simp [HN.out]; omega]
      exact (h7.swap.front 2 rfl).rot.rot
     refine (cB (Q := ⟨Q.held, Q.waits.take at_ ++ [aE en] ++ Q.waits.drop at_⟩) wL.out ⟨?_, ?_⟩ h8).swap.drop.swap.drop
     ·rw [List.map_append, List.map_append, List.map_take, List.map_drop, vZ.out.1]
      rfl
     ·intro x hx
      rcases List.mem_append.1 hx with hx | hx
      ·rcases List.mem_append.1 hx with hx | hx
       ·exact vZ.out.2 x (List.mem_of_mem_take hx)
       ·obtain rfl := List.mem_singleton.1 hx
        exact vP.out
      ·exact vZ.out.2 x (List.mem_of_mem_drop hx)
   ·have HF := Eh hf
    have vy := Eh (show bj RC Q o (cdC c) b = (cP RC Q (aE en), true) by rw [xH.out b, hf]; simp)
    clear hf
    (try go_upto_region 12 with fail)
    obtain ⟨hv, wv, hs, ws, hr1, hr2, h2⟩ := aU uZ.out.drew
    obtain ⟨wa, wc, rfl⟩ := (h2.front 2 rfl).own_shape
    have hwl : ws.length = Q.waits.length := by rw [← hr2.1, List.length_map]
    have hat : at_ ≤ ws.length := by omega
    have vk := Eh (Rd.takeE bT (h2.own 2 rfl).rd (m := at_) hat rfl)
    have wG := Eh (fun (x : EntE) (hx : x ∈ ws.take at_) => (hr2.2 x (List.mem_of_mem_take hx) : ClOk D5 x.x))
    have wP := Eh (show (ws.take at_).map aE = Q.waits.take at_ by rw [List.map_take, hr2.1])
    have HL := Eh (dy (ak (h2.blk 3 rfl)))
    obtain ⟨c0, c1, c2, c3, c4, c5, cf⟩ := aX (h2.blk 0 rfl)
    have hws : ws.length ≤ wc := by obtain ⟨_, _, _, _, hx, hy, _⟩ := (h2.own 2 rfl).rd; cases hx; exact hy
    have hb1 : (at_ : Int) ≤ (wc : Int) := by omega
    have hmap : Option.map (fun x => Addr.add x 0) wa = wa := by rcases (h2.own 2 rfl).2.2 with ⟨hx, _⟩ | ⟨g, c2, cur, hx, _⟩ <;> rw [(Value.slice.inj hx).1] <;> first | rfl | simp [cn]
    generalize hN : ws.length = N at *
    clear hr1 hr2 h2 hwl hN hws
    refine ag [(0, false, 8), (1, false, 8), (2, false, 8), (3, false, 8), (4, false, 8), (5, false, 8), (6, false, 8), (7, false, 8), (8, true, 0)] (by kernel_rfl) (by kernel_rfl) ?_
    iterate 8 (refine af rfl rfl (fun K hK => ?_); (first | ((refine aj _ _ rfl _ _ rfl _ HL.out ?_); go_simp) | go_simp); refine hK _ ?_; clear hK K)
    refine al rfl ?_
    refine aw rfl (fun K hK => ?_)
    go_simp
    refine (fO en (HD.out.env uZ.out.drew) (PH.le.refl _) vP.out wG.out vk.out uZ.out.drew).mono ?_
    rw [wP.out, yC.out, HF.out]
    rintro e6 w6 ⟨rfl, hk6⟩
    have vi := Eh (uZ.out.drew.kept hk6)
    clear hk6 uZ HL vk wG c0 c1 c2 c3 c4 c5 cf hb1 hmap wP HF
    refine hK _ _ ?_
    clear hK K
    refine wpList_nil ?_
    refine And.intro ?_ ?_
    ·go_simp
    refine ar ?_
    have HL := Eh (dy (ak (vi.out.blk 1 rfl)))
    go_wp2_with (first | (refine ai rfl _ _ rfl _ _ rfl _ HL.out ?_) | (go_at_call 136; refine (ny en hh (PH.le.refl _) vP.out vi.out).mono ?_; rintro e7 w7 ⟨rfl, hs7⟩; have vn := Eh hs7; clear hs7 vi HL))
    go_ret
    rw [vy.out]
    exact ⟨D5, rfl, wB.out, vn.out.swap.drop.swap.drop⟩
  ·have vy := Eh (show bj RC Q o (cdC c) b = (Q, true) by unfold bj dj; rw [AQ.out]; simp only [HO.out, z6.out, hcv]; simp)
   have vE := Eh hcv
   clear hcv
   go_enter Tryz.func87, Tryz.ntmps87
   go_upto_region 1 with fail
   rw [← xB.out]
   clear xB
   generalize w.heap.size = bc at *
   go_upto_region 3 with (go_at_call 82; refine HW.out.mono ?_; rintro e1 w1 ⟨rfl, hk1⟩; have uX := Eh (HS.out.kept hk1); clear hk1 HS HW)
   have vr := Eh (az (ak (uX.out.blk 1 rfl)))
   have vg := Eh (uX.out.alloc (ay (mkC o c false)).toArray bg)
   clear uX
   go_upto_region 4 with (first | (refine ai rfl _ _ rfl _ _ rfl _ vr.out ?_) | (refine eF rfl _ _ rfl o c rfl rfl ?_) | (refine ax rfl _ _ _ rfl (ay (mkC o c false)) _ _ rfl rfl (by kernel_rfl) rfl (eE _) ?_))
   clear vr
   obtain ⟨W2, hW2, hs2⟩ := Sat.hide vg.out
   rw [← hW2]
   clear hW2 vg
   generalize w1.heap.size = bz at hs2 ⊢
   have vg := Eh hs2.swap
   have vr := Eh (az (ak (hs2.blk 2 rfl)))
   obtain ⟨hv, wv, hs, ws, hr1, hr2, h2⟩ := aU hs2.swap
   obtain ⟨wa, wc, rfl⟩ := (h2.front 2 rfl).own_shape
   obtain ⟨c0, c1, c2, c3, c4, c5, cf⟩ := aX (h2.blk 0 rfl)
   generalize ws.length = nw at c5
   clear hs2 h2 hr1 hr2
   go_upto_region 6 with (first | (refine ai rfl _ _ rfl _ _ rfl _ vr.out ?_) | (go_at_call 133; refine (rp o c (PH.le.refl _) HC.out vg.out).mono ?_; rw [HK.out]; rintro e3 w3 ⟨rfl, hk3⟩; have vi := Eh (vg.out.kept hk3); clear hk3 vg vr c0 c1 c2 c3 c4 c5 cf))
   obtain ⟨hv, wv, hs, ws, hr1, hr2, h1⟩ := aU vi.out
   obtain ⟨x, hx, hxe⟩ : ∃ x, hs[k]? = some x ∧ aE x = x0 := by
    have hx0 := z6.out
    rw [← hr1.1, List.getElem?_map] at hx0
    cases hxx : hs[k]? with
    | none => rw [hxx] at hx0; cases hx0
    | some x => rw [hxx] at hx0; exact ⟨x, rfl, Option.some.inj hx0⟩
   have yA := Eh (show x.x.c = x0.c by rw [← hxe])
   have xG := Eh (show ClOk D x.x from hr1.2 x (List.mem_of_getElem? hx))
   obtain ⟨ha, hcp, rfl⟩ := (h1.front 1 rfl).own_shape
   obtain ⟨g, og, rfl, hrng⟩ := aF bT (h1.own 1 rfl).rd hx rfl
   have wY := Eh (az (ky hrng))
   obtain ⟨c0, c1, c2, c3, c4, c5, cf⟩ := aX (h1.blk 0 rfl)
   have hkl : (k : Int) < (hs.length : Int) := by have := (List.getElem?_eq_some_iff.1 hx).1; omega
   generalize hs.length = nh at c4 hkl
   clear hr1 hr2 h1 hx hxe hrng
   have vn := Eh ((vi.out.alloc x.x.cells.toArray tCl).swap)
   go_upto_region 8 with (first | (refine ai rfl _ _ rfl _ _ rfl _ wY.out ?_) | (refine ax rfl _ _ _ rfl x.x.cells _ _ rfl rfl (by kernel_rfl) rfl (ClmE.one _) ?_))
   clear wY vi c0 c1 c2 c3 c4 c5 cf
   obtain ⟨W7, hW7, hs7⟩ := Sat.hide vn.out
   rw [← hW7]
   clear hW7 vn
   generalize w3.heap.size = bh at hs7 ⊢
   have vn := Eh (show Sat B D W7 (bZ D q Q :: blk bh x.x.cells.toArray tCl :: blk bz (ay (mkC o c false)).toArray bg :: blk bc c.cells.toArray tCl :: l) from hs7)
   clear hs7
   obtain ⟨hv, wv, hs, ws, hr1, hr2, h3⟩ := aU vn.out
   obtain ⟨c0, c1, c2, c3, c4, c5, cf⟩ := aX (h3.blk 0 rfl)
   clear hr1 hr2 h3
   have wY := Eh (az (w := W7.drew) (ak (vn.out.drew.blk 1 rfl)))
   have vr := Eh (az (w := W7.drew) (ak (vn.out.drew.blk 3 rfl)))
   have wT := Eh (cov_C (By.out.env vn.out.drew) (xG.out.rd vn.out.drew) (HC.out.rd vn.out.drew))
   rw [yA.out, vE.out] at wT
   refine ag [(0, false, 7), (1, false, 7), (2, false, 7), (3, false, 7), (4, false, 7), (5, false, 7), (6, false, 7), (7, true, 0)] (by kernel_rfl) (by kernel_rfl) ?_
   iterate 7 (refine af rfl rfl (fun K hK => ?_); (first | ((refine aj _ _ rfl _ _ rfl _ wY.out ?_); go_simp) | ((refine aj _ _ rfl _ _ rfl _ vr.out ?_); go_simp) | go_simp); refine hK _ ?_; clear hK K)
   refine al rfl ?_
   refine aw rfl (fun K hK => ?_)
   go_simp
   refine wT.out.mono ?_
   rintro e4 w4 ⟨rfl, hk4⟩
   have vw := Eh (vn.out.drew.kept hk4)
   clear hk4 vn wT wY vr c0 c1 c2 c3 c4 c5 cf
   obtain ⟨hv, wv, hs, ws, hr1, hr2, h3⟩ := aU vw.out
   obtain ⟨c0, c1, c2, c3, c4, c5, cf⟩ := aX (h3.blk 0 rfl)
   clear hr1 hr2 h3
   have wY := Eh (az (ak (vw.out.blk 1 rfl)))
   have vr := Eh (az (ak (vw.out.blk 3 rfl)))
   refine hK _ _ ?_
   clear hK K
   refine wpList_nil ?_
   refine And.intro ?_ ?_
   ·go_simp
   refine ar ?_
   go_wp2_with fail
   go_ret
   rw [vy.out]
   exact ⟨D, rfl, PH.le.refl _, vw.out.swap.drop.swap.drop.swap.drop⟩
 ·have xq := Eh (show dj RC Q o (cdC c) = some (⟨o, cdC c, false⟩, Q.waits.length) by unfold dj; rw [ho])
  have xb := Eh hk
  clear ho hk
  obtain ⟨at_, hat_⟩ : ∃ n, n = Q.waits.length := ⟨_, rfl⟩
  rw [← hat_] at xq
  have hat0 : at_ ≤ Q.waits.length := by omega
  have xr := Eh hat_
  clear hat_
  go_enter Tryz.func87, Tryz.ntmps87
  go_upto_region 1 with fail
  rw [← xB.out]
  clear xB
  generalize w.heap.size = bc at *
  go_upto_region 3 with (go_at_call 82; refine HW.out.mono ?_; rintro e1 w1 ⟨rfl, hk1⟩; have uX := Eh (HS.out.kept hk1); clear hk1 HS HW)
  have vr := Eh (az (ak (uX.out.blk 1 rfl)))
  have vg := Eh (uX.out.alloc (ay (mkC o c false)).toArray bg)
  clear uX
  go_upto_region 4 with (first | (refine ai rfl _ _ rfl _ _ rfl _ vr.out ?_) | (refine eF rfl _ _ rfl o c rfl rfl ?_) | (refine ax rfl _ _ _ rfl (ay (mkC o c false)) _ _ rfl rfl (by kernel_rfl) rfl (eE _) ?_))
  clear vr
  obtain ⟨W2, hW2, hs2⟩ := Sat.hide vg.out
  rw [← hW2]
  clear hW2 vg
  generalize w1.heap.size = bz at hs2 ⊢
  have vg := Eh hs2.swap
  have vr := Eh (az (ak (hs2.blk 2 rfl)))
  obtain ⟨hv, wv, hs, ws, hr1, hr2, h2⟩ := aU hs2.swap
  obtain ⟨wa, wc, rfl⟩ := (h2.front 2 rfl).own_shape
  have hwl : ws.length = at_ := by rw [← List.length_map (f := aE), hr2.1, xr.out]
  obtain ⟨c0, c1, c2, c3, c4, c5, cf⟩ := aX (h2.blk 0 rfl)
  rw [hwl] at c5
  clear hs2 h2 hr1 hr2 hwl
  go_upto_region 6 with (first | (refine ai rfl _ _ rfl _ _ rfl _ vr.out ?_) | (go_at_call 133; refine (rp o c (PH.le.refl _) HC.out vg.out).mono ?_; rw [xb.out]; rintro e3 w3 ⟨rfl, hk3⟩; have uZ := Eh (vg.out.kept hk3); clear hk3 vg vr c0 c1 c2 c3 c4 c5 cf))
  obtain ⟨en, hen⟩ : ∃ en : EntE, en = mkC o c false := ⟨_, rfl⟩
  have yC := Eh (show en.o = o by rw [hen])
  have vP := Eh (show OkC D en by rw [hen]; exact HC.out)
  have HD := Eh By.out
  have wB := Eh (PH.le.refl D)
  have xH := Eh (show ∀ b, bj RC Q o (cdC c) b = _ from fun b => kK (b := b) (e := aE en) AQ.out (by rw [hen, xq.out]))
  have hs5 := uZ.out
  rw [← hen] at hs5
  clear uZ hen xq
  have uZ := Eh hs5
  clear hs5
  cases hf : d7 RC Q o (aE en).c (Q.waits.take at_)
  ·have HF := Eh hf
   cases b
   ·have vy := Eh (show bj RC Q o (cdC c) false = (Q, false) by rw [xH.out false, hf]; simp)
    clear hf
    (try go_upto_region 12 with fail)
    obtain ⟨hv, wv, hs, ws, hr1, hr2, h2⟩ := aU uZ.out.drew
    obtain ⟨wa, wc, rfl⟩ := (h2.front 2 rfl).own_shape
    have hwl : ws.length = Q.waits.length := by rw [← hr2.1, List.length_map]
    have hat : at_ ≤ ws.length := by omega
    have vk := Eh (Rd.takeE bT (h2.own 2 rfl).rd (m := at_) hat rfl)
    have wG := Eh (fun (x : EntE) (hx : x ∈ ws.take at_) => (hr2.2 x (List.mem_of_mem_take hx) : ClOk D x.x))
    have wP := Eh (show (ws.take at_).map aE = Q.waits.take at_ by rw [List.map_take, hr2.1])
    have HL := Eh (dy (ak (h2.blk 3 rfl)))
    obtain ⟨c0, c1, c2, c3, c4, c5, cf⟩ := aX (h2.blk 0 rfl)
    have hws : ws.length ≤ wc := by obtain ⟨_, _, _, _, hx, hy, _⟩ := (h2.own 2 rfl).rd; cases hx; exact hy
    have hb1 : (at_ : Int) ≤ (wc : Int) := by omega
    have hmap : Option.map (fun x => Addr.add x 0) wa = wa := by rcases (h2.own 2 rfl).2.2 with ⟨hx, _⟩ | ⟨g, c2, cur, hx, _⟩ <;> rw [(Value.slice.inj hx).1] <;> first | rfl | simp [cn]
    generalize hN : ws.length = N at *
    clear hr1 hr2 h2 hwl hN hws
    refine ag [(0, false, 8), (1, false, 8), (2, false, 8), (3, false, 8), (4, false, 8), (5, false, 8), (6, false, 8), (7, false, 8), (8, true, 0)] (by kernel_rfl) (by kernel_rfl) ?_
    iterate 8 (refine af rfl rfl (fun K hK => ?_); (first | ((refine aj _ _ rfl _ _ rfl _ HL.out ?_); go_simp) | go_simp); refine hK _ ?_; clear hK K)
    refine al rfl ?_
    refine aw rfl (fun K hK => ?_)
    go_simp
    refine (fO en (HD.out.env uZ.out.drew) (PH.le.refl _) vP.out wG.out vk.out uZ.out.drew).mono ?_
    rw [wP.out, yC.out, HF.out]
    rintro e6 w6 ⟨rfl, hk6⟩
    have vi := Eh (uZ.out.drew.kept hk6)
    clear hk6 uZ HL vk wG c0 c1 c2 c3 c4 c5 cf hb1 hmap wP HF
    refine hK _ _ ?_
    clear hK K
    refine wpList_nil ?_
    refine And.intro ?_ ?_
    ·go_simp
    refine ar ?_
    go_wp2_with fail
    go_ret
    rw [vy.out]
    exact ⟨D, rfl, wB.out, vi.out.swap.drop.swap.drop⟩
   ·have vy := Eh (show bj RC Q o (cdC c) true = (⟨Q.held, Q.waits.take at_ ++ [aE en] ++ Q.waits.drop at_⟩, false) by rw [xH.out true, hf]; simp)
    clear hf
    (try go_upto_region 12 with fail)
    obtain ⟨hv, wv, hs, ws, hr1, hr2, h2⟩ := aU uZ.out.drew
    obtain ⟨wa, wc, rfl⟩ := (h2.front 2 rfl).own_shape
    have hwl : ws.length = Q.waits.length := by rw [← hr2.1, List.length_map]
    have hat : at_ ≤ ws.length := by omega
    have vk := Eh (Rd.takeE bT (h2.own 2 rfl).rd (m := at_) hat rfl)
    have wG := Eh (fun (x : EntE) (hx : x ∈ ws.take at_) => (hr2.2 x (List.mem_of_mem_take hx) : ClOk D x.x))
    have wP := Eh (show (ws.take at_).map aE = Q.waits.take at_ by rw [List.map_take, hr2.1])
    have HL := Eh (dy (ak (h2.blk 3 rfl)))
    obtain ⟨c0, c1, c2, c3, c4, c5, cf⟩ := aX (h2.blk 0 rfl)
    have hws : ws.length ≤ wc := by obtain ⟨_, _, _, _, hx, hy, _⟩ := (h2.own 2 rfl).rd; cases hx; exact hy
    have hb1 : (at_ : Int) ≤ (wc : Int) := by omega
    have hmap : Option.map (fun x => Addr.add x 0) wa = wa := by rcases (h2.own 2 rfl).2.2 with ⟨hx, _⟩ | ⟨g, c2, cur, hx, _⟩ <;> rw [(Value.slice.inj hx).1] <;> first | rfl | simp [cn]
    generalize hN : ws.length = N at *
    clear hr1 hr2 h2 hwl hN hws
    refine ag [(0, false, 8), (1, false, 8), (2, false, 8), (3, false, 8), (4, false, 8), (5, false, 8), (6, false, 8), (7, false, 8), (8, true, 0)] (by kernel_rfl) (by kernel_rfl) ?_
    iterate 8 (refine af rfl rfl (fun K hK => ?_); (first | ((refine aj _ _ rfl _ _ rfl _ HL.out ?_); go_simp) | go_simp); refine hK _ ?_; clear hK K)
    refine al rfl ?_
    refine aw rfl (fun K hK => ?_)
    go_simp
    refine (fO en (HD.out.env uZ.out.drew) (PH.le.refl _) vP.out wG.out vk.out uZ.out.drew).mono ?_
    rw [wP.out, yC.out, HF.out]
    rintro e6 w6 ⟨rfl, hk6⟩
    have vi := Eh (uZ.out.drew.kept hk6)
    clear hk6 uZ HL vk wG c0 c1 c2 c3 c4 c5 cf hb1 hmap wP HF
    refine hK _ _ ?_
    clear hK K
    refine wpList_nil ?_
    refine And.intro ?_ ?_
    ·go_simp
    refine ar ?_
    obtain ⟨hv, wv, hs, ws, hr1, hr2, h2⟩ := aU vi.out
    obtain ⟨wa, wc, rfl⟩ := (h2.front 2 rfl).own_shape
    have hwl : ws.length = Q.waits.length := by rw [← hr2.1, List.length_map]
    have HL := Eh (dy (ak (h2.drew.blk 3 rfl)))
    obtain ⟨c0, c1, c2, c3, c4, c5, cf⟩ := aX (h2.blk 0 rfl)
    have wL := Eh hr1
    have vZ := Eh hr2
    have hNb : ws.length ≤ 100000 := by omega
    have hat : at_ ≤ ws.length := by omega
    have vn := Eh (show Sat B D w6 (qbC q hv (.slice wa ws.length wc) :: bN hv hs :: aI bg 18 (.slice wa ws.length wc) ws.length (ws.flatMap ay) :: blk bz (ay en).toArray bg :: blk bc c.cells.toArray tCl :: l) from h2)
    generalize hN : ws.length = N at *
    have HN := Eh hN
    clear hr1 hr2 h2 hwl hN vi
    go_upto_region 16 with fail
    refine ag [(0, false, 11), (1, false, 8), (2, false, 8), (3, false, 8), (4, false, 8), (5, false, 8), (6, false, 7), (7, true, 0), (8, true, 0), (9, false, 11), (10, false, 11), (11, true, 0)] (by kernel_rfl) (by kernel_rfl) ?_
    iterate 7 (refine af rfl rfl (fun K hK => ?_); (first | ((refine aj _ _ rfl _ _ rfl _ HL.out ?_); go_simp) | go_simp); refine hK _ ?_; clear hK K)
    refine al rfl ?_
    refine aD rfl _ _ rfl bg i0 _ (ay en) rfl Tryz.underlying108 HI.out.1 HI.out.2.1 (HI.out.2.2.1.trans rfl) (by rw [bT]; decide) (by rw [bT]; decide) ?_
    refine wpList_nil ?_
    obtain ⟨W8, hW8, hs8⟩ := Sat.hide (vn.out.drew.alloc (ay en).toArray bg)
    rw [← hW8]
    clear hW8 vn HL c0 c1 c2 c3 c4 c5 cf
    generalize w6.drew.heap.size = by_ at hs8 ⊢
    obtain ⟨c0, c1, c2, c3, c4, c5, cf⟩ := aX (hs8.blk 1 rfl)
    have vw := Eh (show Sat B D W8 (aI bg 18 (.slice wa N wc) N (ws.flatMap ay) :: blk by_ (ay en).toArray bg :: qbC q hv (.slice wa N wc) :: bN hv hs :: blk bz (ay en).toArray bg :: blk bc c.cells.toArray tCl :: l) from hs8.front 3 rfl)
    clear hs8
    refine And.intro ?_ ?_
    ·go_simp
    refine al rfl ?_
    refine aw rfl (fun K hK => ?_)
    go_simp
    refine (nN (i := at_) hat (bT en) (eE en) by_ (by omega) vw.out).mono ?_
    rintro e9 w9 ⟨v9, rfl, hs9⟩
    rw [oQ bT] at hs9
    obtain ⟨va, vc, rfl⟩ := hs9.own_shape
    clear c0 c1 c2 c3 c4 c5 cf vw
    obtain ⟨c0, c1, c2, c3, c4, c5, cf⟩ := aX (hs9.blk 2 rfl)
    have vu := Eh (Sat.set6 (hs9.front 2 rfl) (.slice va (N + 1) vc))
    clear hs9
    refine hK _ _ ?_
    clear hK K
    refine wpList_nil ?_
    refine And.intro ?_ ?_
    ·go_simp
    iterate 2 (refine af rfl rfl (fun K hK => ?_); (first | ((refine aj _ _ rfl _ _ rfl _ HL.out ?_); go_simp) | go_simp); refine hK _ ?_; clear hK K)
    refine al rfl ?_
    refine wpList_plain rfl (fun K hK => ?_)
    go_simp
    refine hK _ _ ?_
    clear hK K
    refine wpList_nil ?_
    refine And.intro ?_ ?_
    ·go_simp
    refine ar ?_
    go_wp2_with fail
    go_ret
    rw [vy.out]
    refine ⟨D, rfl, wB.out, ?_⟩
    have h7 := (vu.out.front 2 rfl).drop
    have h8 : Sat B D (w9.setCell ⟨q, 5, none⟩ (.slice va (N + 1) vc)) (qbC q hv (.slice va (N + 1) vc) :: bN hv hs :: bN (.slice va (N + 1) vc) (ws.take at_ ++ [en] ++ ws.drop at_) :: blk bz (ay en).toArray bg :: blk bc c.cells.toArray tCl :: l) := by
     show Sat B D _ (qbC q _ _ :: bN hv hs :: aI bg 18 _ (ws.take at_ ++ [en] ++ ws.drop at_).length _ :: _)
     rw [show (ws.take at_ ++ [en] ++ ws.drop at_).length = N + 1 by simp [HN.out]; omega]
     exact (h7.swap.front 2 rfl).rot.rot
    refine (cB (Q := ⟨Q.held, Q.waits.take at_ ++ [aE en] ++ Q.waits.drop at_⟩) wL.out ⟨?_, ?_⟩ h8).swap.drop.swap.drop
    ·rw [List.map_append, List.map_append, List.map_take, List.map_drop, vZ.out.1]
     rfl
    ·intro x hx
     rcases List.mem_append.1 hx with hx | hx
     ·rcases List.mem_append.1 hx with hx | hx
      ·exact vZ.out.2 x (List.mem_of_mem_take hx)
      ·obtain rfl := List.mem_singleton.1 hx
       exact vP.out
     ·exact vZ.out.2 x (List.mem_of_mem_drop hx)
  ·have HF := Eh hf
   have vy := Eh (show bj RC Q o (cdC c) b = (cP RC Q (aE en), true) by rw [xH.out b, hf]; simp)
   clear hf
   (try go_upto_region 12 with fail)
   obtain ⟨hv, wv, hs, ws, hr1, hr2, h2⟩ := aU uZ.out.drew
   obtain ⟨wa, wc, rfl⟩ := (h2.front 2 rfl).own_shape
   have hwl : ws.length = Q.waits.length := by rw [← hr2.1, List.length_map]
   have hat : at_ ≤ ws.length := by omega
   have vk := Eh (Rd.takeE bT (h2.own 2 rfl).rd (m := at_) hat rfl)
   have wG := Eh (fun (x : EntE) (hx : x ∈ ws.take at_) => (hr2.2 x (List.mem_of_mem_take hx) : ClOk D x.x))
   have wP := Eh (show (ws.take at_).map aE = Q.waits.take at_ by rw [List.map_take, hr2.1])
   have HL := Eh (dy (ak (h2.blk 3 rfl)))
   obtain ⟨c0, c1, c2, c3, c4, c5, cf⟩ := aX (h2.blk 0 rfl)
   have hws : ws.length ≤ wc := by obtain ⟨_, _, _, _, hx, hy, _⟩ := (h2.own 2 rfl).rd; cases hx; exact hy
   have hb1 : (at_ : Int) ≤ (wc : Int) := by omega
   have hmap : Option.map (fun x => Addr.add x 0) wa = wa := by rcases (h2.own 2 rfl).2.2 with ⟨hx, _⟩ | ⟨g, c2, cur, hx, _⟩ <;> rw [(Value.slice.inj hx).1] <;> first | rfl | simp [cn]
   generalize hN : ws.length = N at *
   clear hr1 hr2 h2 hwl hN hws
   refine ag [(0, false, 8), (1, false, 8), (2, false, 8), (3, false, 8), (4, false, 8), (5, false, 8), (6, false, 8), (7, false, 8), (8, true, 0)] (by kernel_rfl) (by kernel_rfl) ?_
   iterate 8 (refine af rfl rfl (fun K hK => ?_); (first | ((refine aj _ _ rfl _ _ rfl _ HL.out ?_); go_simp) | go_simp); refine hK _ ?_; clear hK K)
   refine al rfl ?_
   refine aw rfl (fun K hK => ?_)
   go_simp
   refine (fO en (HD.out.env uZ.out.drew) (PH.le.refl _) vP.out wG.out vk.out uZ.out.drew).mono ?_
   rw [wP.out, yC.out, HF.out]
   rintro e6 w6 ⟨rfl, hk6⟩
   have vi := Eh (uZ.out.drew.kept hk6)
   clear hk6 uZ HL vk wG c0 c1 c2 c3 c4 c5 cf hb1 hmap wP HF
   refine hK _ _ ?_
   clear hK K
   refine wpList_nil ?_
   refine And.intro ?_ ?_
   ·go_simp
   refine ar ?_
   have HL := Eh (dy (ak (vi.out.blk 1 rfl)))
   go_wp2_with (first | (refine ai rfl _ _ rfl _ _ rfl _ HL.out ?_) | (go_at_call 136; refine (ny en hh (PH.le.refl _) vP.out vi.out).mono ?_; rintro e7 w7 ⟨rfl, hs7⟩; have vn := Eh hs7; clear hs7 vi HL))
   go_ret
   rw [vy.out]
   exact ⟨D, rfl, wB.out, vn.out.swap.drop.swap.drop⟩
end Go.Proofs.YtgljdkjepdknnaaGreatDoor
