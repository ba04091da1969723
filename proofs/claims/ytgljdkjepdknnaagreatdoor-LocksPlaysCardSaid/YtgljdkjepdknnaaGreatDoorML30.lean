/- Joined texts: The document's queue: a row of its own (ratlineref10.copied); something is held (give). Parts of a row of entries that lies in the pool. -/
import Derived.Test.YtgljdkjepdknnaaGreatDoorML20
import Derived.Test.YtgljdkjepdknnaaGreatDoorML11
import Derived.Test.YtgljdkjepdknnaaGreatDoorML13
set_option maxHeartbeats 64000000
namespace Go.Proofs.YtgljdkjepdknnaaGreatDoor
open Go.ChangeShapes Go.WideShapes Go.ChangeAt Go.RowKit
set_option maxRecDepth 100000
set_option linter.unusedSimpArgs false
theorem Sat.set2a {B w : World} {D : PH} {l : List HP} {b : Nat} {t : TypeId} {y0 y1 : Value} (hs : Sat B D w (Proofs.YtgljdkjepdknnaaGreatDoor.blk b #[y0, y1] t :: l)) (u : Value) : Sat B D (w.setCell ⟨b, 0, none⟩ u) (Proofs.YtgljdkjepdknnaaGreatDoor.blk b #[u, y1] t :: l) := hs.set 0 u
theorem Sat.set2b {B w : World} {D : PH} {l : List HP} {b : Nat} {t : TypeId} {y0 y1 : Value} (hs : Sat B D w (Proofs.YtgljdkjepdknnaaGreatDoor.blk b #[y0, y1] t :: l)) (u : Value) : Sat B D (w.setCell ⟨b, 1, none⟩ u) (Proofs.YtgljdkjepdknnaaGreatDoor.blk b #[y0, u] t :: l) := hs.set 1 u
theorem Sat.setLess {B w : World} {D : PH} {l : List HP} {b : Nat} {e : EntE} (hs : Sat B D w (Proofs.YtgljdkjepdknnaaGreatDoor.blk b (ay e).toArray tRe :: l)) : Sat B D (w.setCell ⟨b, 17, none⟩ (.bool false)) (Proofs.YtgljdkjepdknnaaGreatDoor.blk b (ay (cN e)).toArray tRe :: l) := hs.set 17 (.bool false)
abbrev nQ : Array Value := #[.slice none 0 0, .slice none 0 0]
def QueGot (B : World) (D : PH) (l : List HP) (Q : Qm Clm) (r : Ending) (w' : World) : Prop := ∃ (v : Value) (D' : PH), r = .returned v ∧ PH.le D D' ∧ QueD D' v Q ∧ Sat B D' w' l
theorem dD (hs : List EntE) : ∀ u ∈ hs.flatMap ay, u.oneCell' = true := fun u hu => by
 obtain ⟨e, _, he⟩ := List.mem_flatMap.1 hu
 exact eE e u he
theorem gU {B w : World} {D : PH} {l : List HP} {v : Value} {hs : List EntE} (h : EntsD D v hs) (hM : hs.length ≤ 100000) (s : Sat B D w l) :
  Calls Tryz.prog 69 #[v] w fun r w' => ∃ va vc, r = .returned (.slice va hs.length vc) ∧ Sat B D w' (fq (.slice va hs.length vc) hs :: l) := by
 obtain ⟨i0, hi, hz0, hz1, hz2⟩ := info_parts gJ
 have HI := Eh (And.intro hi (And.intro hz0 (And.intro hz1 hz2)))
 obtain ⟨a, c, rfl, n1, m1, _⟩ := (h.rd s).shape
 have uX := Eh (s.own_nil tRe 18)
 have vk := Eh (h.rd s).1
 have H1 := Eh (dD hs)
 clear h s hi hz0 hz1 hz2
 go_enter Tryz.func69, Tryz.ntmps69
 go_wp2_with (at_builtin; refine au _ rfl _ _ 56 rfl tRe i0 _ 18 200 Tryz.underlying56 HI.out.1 HI.out.2.1 HI.out.2.2.1 HI.out.2.2.2 rfl _ 0 _ rfl uX.out _ hs.length _ rfl vk.out H1.out (by unfold maxLen; omega) (by omega) ?_; intro v11 w11 hs11 h11; obtain ⟨va, vc, rfl⟩ := hs11.own_shape; have vl := Eh hs11; clear hs11 h11 uX vk)
 go_ret
 have h9 := vl.out
 rw [Nat.zero_add, List.nil_append] at h9
 exact ⟨va, vc, rfl, h9⟩
theorem jU {B w : World} {D : PH} {l : List HP} {v : Value} {Q : Qm Clm} (e : EntE) (hq : QueD D v Q) (he : ClOk D e.x ∧ bV e.x.c) (hlen : Q.held.length ≤ 100000) (s : Sat B D w l) :
  Calls Tryz.prog 149 #[v, .agg (ay e).toArray] w (QueGot B D l (cP RC Q (aE e))) := by
 obtain ⟨hv, wv, hs, ws, rfl, hH, hW, hhq, hwq⟩ := hq
 obtain ⟨i0, hi, hz0, hz1, hz2⟩ := info_parts gJ
 have HI := Eh (And.intro hi (And.intro hz0 (And.intro hz1 hz2)))
 obtain ⟨wa, wc, rfl⟩ := hW.1.shape
 obtain ⟨W1, hW1, hs1⟩ := d9 s #[hv, .slice wa ws.length wc] (ay e).toArray nQ tRq tRe tRq
 obtain ⟨a, c, rfl, n1, m1, _⟩ := (hH.rd hs1).shape
 have hll : hs.length ≤ Q.held.length ∧ Q.held.length ≤ hs.length := by have := congrArg List.length hhq; rw [List.length_map] at this; omega
 have hll2 : hs.length ≤ 100000 := by omega
 have hown := k5 (wv := .slice wa ws.length wc) e.o (hH.rd hs1) (he.1.rd hs1)
 rw [fV (cH RC e.o e.x.c) hs, hhq] at hown
 have vU := Eh (bv (ak (hs1.blk 0 rfl)))
 have vr := Eh (az (dZ (hs1.blk 1 rfl)))
 have x0 := (ei (hs1.blk 1 rfl)).1
 have uW := Eh hW1
 have uX := Eh hs1
 have HH := Eh hH
 have wQ := Eh hW
 have xL := Eh hhq
 have xJ := Eh hwq
 have HE := Eh he
 clear s hs1 hW1 hi hz0 hz1 hz2 hH hW hhq hwq he
 rcases iz (R := RC) Q.held (aE e).o (aE e).c with ⟨k, ho, hk, hlt⟩ | ⟨ho, hk⟩
 ·have HG := Eh (kZ ho)
  have hkn : k < hs.length := by omega
  rw [show cz (cH RC e.o e.x.c) Q.held = (k : Int) from hk] at hown
  have xb := Eh hown
  clear ho hk hown hlt
  go_enter Tryz.func149, Tryz.ntmps149
  go_upto_region 1 with fail
  rw [← uW.out]
  clear uW
  generalize w.heap.size + 1 + 1 = b3 at *
  generalize w.heap.size + 1 = b2 at *
  generalize w.heap.size = b1 at *
  go_upto_region 2 with (first | (refine ai rfl _ _ rfl _ _ rfl _ vU.out ?_) | (refine ai rfl _ _ rfl _ _ rfl _ vr.out ?_) | (go_at_call 145; refine xb.out.mono ?_; rintro e1 w1 ⟨rfl, hk1⟩; have vg := Eh (uX.out.kept hk1); clear hk1 uX xb vU vr x0))
  obtain ⟨q0, _, _⟩ := aJ (vg.out.blk 0 rfl)
  go_upto_region 3 with (go_at_call 69; refine (gU HH.out hll2 vg.out).mono ?_; rintro e3 w3 ⟨va, vc, rfl, hs3⟩; have uY := Eh hs3; clear hs3 vg q0)
  have x17 := (ei (uY.out.blk 2 rfl)).2
  have xf := frz (uY.out.blk 2 rfl)
  have vh := Eh (Sat.setLess (uY.out.front 2 rfl))
  go_upto_region 4 with fail
  obtain ⟨W4, hW4, hs4⟩ := Sat.hide vh.out
  rw [← hW4]
  clear hW4 vh uY x17 xf
  obtain ⟨g, rfl⟩ : ∃ g, va = some ⟨g, 0, none⟩ := by
   rcases (hs4.own 1 rfl).2.2 with ⟨h1, h3⟩ | ⟨g, c2, cur, h1, _⟩
   ·omega
   ·cases h1; exact ⟨g, rfl⟩
  have HL := Eh (el (ak (hs4.blk 0 rfl)))
  have uZ := Eh (show Sat B D W4 (aI tRe 18 (.slice (some ⟨g, 0, none⟩) hs.length vc) hs.length (hs.flatMap ay) :: blk b2 (ay (cN e)).toArray tRe :: blk b1 #[.slice a hs.length c, .slice wa ws.length wc] tRq :: blk b3 nQ tRq :: l) from hs4.swap)
  clear hs4
  have hkN : (k : Int) < (hs.length : Int) := by omega
  have hk0 : ¬ ((k : Int) < 0) := by omega
  go_upto_region 7 with (first | (refine ai rfl _ _ rfl _ _ rfl _ HL.out ?_) | (refine cF bT eE rfl _ _ _ rfl tRe g _ k hs.length vc rfl (by omega) (cN e) rfl hs uZ.out (by kernel_rfl) hkn rfl ?_; intro w6 hs6; have vi := Eh hs6; clear hs6 uZ HL))
  obtain ⟨q0, q1, qf⟩ := aJ (vi.out.blk 2 rfl)
  have vn := Eh (Sat.set2a (vi.out.front 2 rfl) (.slice (some ⟨g, 0, none⟩) hs.length vc))
  go_upto_region 8 with fail
  obtain ⟨W8, hW8, hs8⟩ := Sat.hide vn.out
  rw [← hW8]
  clear hW8 vn vi q0 q1 qf
  have BJ := Eh (bv (ak (hs8.blk 0 rfl)))
  have vw := Eh (hs8.front 3 rfl)
  have wD := Eh (show ∀ u ∈ [Value.slice (some ⟨g, 0, none⟩) hs.length vc, .slice wa ws.length wc], u.oneCell' = true from fun u hu => by simp at hu; rcases hu with rfl | rfl <;> rfl)
  clear hs8
  go_wp2_with (first | (refine ai rfl _ _ rfl _ _ rfl _ BJ.out ?_) | (refine ap rfl _ _ _ rfl tRq b3 rfl [.slice (some ⟨g, 0, none⟩) hs.length vc, .slice wa ws.length wc] rfl nQ vw.out (by kernel_rfl) rfl wD.out ?_; intro w9 hs9; have vu := Eh hs9; clear hs9 vw BJ))
  refine bodyPost_ret (cO rfl _ _ rfl (bv (ak (vu.out.blk 0 rfl)))) rfl ?_
  obtain ⟨D', hle, hE, hs10⟩ := dk (zs := hs.set k (cN e)) (by show Sat B D w9 (aI tRe 18 _ (hs.set k (cN e)).length _ :: _); rw [List.length_set]; exact vu.out.front 2 rfl) (fun x hx => (List.mem_or_eq_of_mem_set hx).elim (HH.out.2 x) (fun h => by rw [h]; exact HE.out))
  exact ⟨_, D', rfl, hle, ⟨_, _, hs.set k (cN e), ws, rfl, hE, wQ.out.mono hle, by show _ = cy RC Q.held (aE e); rw [HG.out, List.map_set, xL.out]; all_goals rfl, xJ.out⟩, hs10.drop.drop.drop⟩
 ·have HG := Eh (lp ho)
  rw [show cz (cH RC e.o e.x.c) Q.held = -1 from hk] at hown
  have xb := Eh hown
  clear ho hk hown
  go_enter Tryz.func149, Tryz.ntmps149
  go_upto_region 1 with fail
  rw [← uW.out]
  clear uW
  generalize w.heap.size + 1 + 1 = b3 at *
  generalize w.heap.size + 1 = b2 at *
  generalize w.heap.size = b1 at *
  go_upto_region 2 with (first | (refine ai rfl _ _ rfl _ _ rfl _ vU.out ?_) | (refine ai rfl _ _ rfl _ _ rfl _ vr.out ?_) | (go_at_call 145; refine xb.out.mono ?_; rintro e1 w1 ⟨rfl, hk1⟩; have vg := Eh (uX.out.kept hk1); clear hk1 uX xb vU vr x0))
  obtain ⟨q0, _, _⟩ := aJ (vg.out.blk 0 rfl)
  go_upto_region 3 with (go_at_call 69; refine (gU HH.out hll2 vg.out).mono ?_; rintro e3 w3 ⟨va, vc, rfl, hs3⟩; have uY := Eh hs3; clear hs3 vg q0)
  have x17 := (ei (uY.out.blk 2 rfl)).2
  have xf := frz (uY.out.blk 2 rfl)
  have vh := Eh (Sat.setLess (uY.out.front 2 rfl))
  go_upto_region 4 with fail
  obtain ⟨W4, hW4, hs4⟩ := Sat.hide vh.out
  rw [← hW4]
  clear hW4 vh uY x17 xf
  have HL := Eh (el (ak (hs4.blk 0 rfl)))
  have uZ := Eh (show Sat B D (W4.alloc (.cells (ay (cN e)).toArray tRe)) (aI tRe 18 (.slice va hs.length vc) hs.length (hs.flatMap ay) :: blk W4.heap.size (ay (cN e)).toArray tRe :: blk b2 (ay (cN e)).toArray tRe :: blk b1 #[.slice a hs.length c, .slice wa ws.length wc] tRq :: blk b3 nQ tRq :: l) from (hs4.alloc _ _).front 2 rfl)
  have vk := Eh (aS (size := 18) (n := 1) (uZ.out.blk 1 rfl) (by simp [bT]) (by unfold maxLen; omega))
  clear hs4
  go_upto_region 7 with (first | (refine ai rfl _ _ rfl _ _ rfl _ HL.out ?_) | (refine aD rfl _ _ rfl tRe i0 _ (ay (cN e)) rfl Tryz.underlying56 HI.out.1 HI.out.2.1 (HI.out.2.2.1.trans rfl) (by rw [bT]; decide) (by rw [bT]; decide) ?_) | (at_builtin; refine au _ rfl _ _ 56 rfl tRe i0 _ 18 200 Tryz.underlying56 HI.out.1 HI.out.2.1 HI.out.2.2.1 HI.out.2.2.2 rfl _ hs.length _ rfl uZ.out _ 1 _ rfl vk.out (by simpa using eE (cN e)) (by unfold maxLen; omega) (by omega) ?_; intro v11 w11 hs11 h11; obtain ⟨va2, vc2, rfl⟩ := hs11.own_shape; have vi := Eh hs11; clear hs11 h11 uZ vk HL))
  obtain ⟨q0, q1, qf⟩ := aJ (vi.out.blk 3 rfl)
  have vn := Eh (Sat.set2a (vi.out.front 3 rfl) (.slice va2 (hs.length + 1) vc2))
  go_upto_region 8 with fail
  obtain ⟨W8, hW8, hs8⟩ := Sat.hide vn.out
  rw [← hW8]
  clear hW8 vn vi q0 q1 qf
  have BJ := Eh (bv (ak (hs8.blk 0 rfl)))
  have vw := Eh (hs8.front 4 rfl)
  have wD := Eh (show ∀ u ∈ [Value.slice va2 (hs.length + 1) vc2, .slice wa ws.length wc], u.oneCell' = true from fun u hu => by simp at hu; rcases hu with rfl | rfl <;> rfl)
  clear hs8
  go_wp2_with (first | (refine ai rfl _ _ rfl _ _ rfl _ BJ.out ?_) | (refine ap rfl _ _ _ rfl tRq b3 rfl [.slice va2 (hs.length + 1) vc2, .slice wa ws.length wc] rfl nQ vw.out (by kernel_rfl) rfl wD.out ?_; intro w9 hs9; have vu := Eh hs9; clear hs9 vw BJ))
  refine bodyPost_ret (cO rfl _ _ rfl (bv (ak (vu.out.blk 0 rfl)))) rfl ?_
  obtain ⟨D', hle, hE, hs10⟩ := dk (zs := hs ++ [cN e]) (v := .slice va2 (hs.length + 1) vc2) (by show Sat B D w9 (aI tRe 18 _ (hs ++ [cN e]).length ((hs ++ [cN e]).flatMap ay) :: _); rw [List.length_append, List.flatMap_append]; have h9 := vu.out.front 2 rfl; simpa using h9) (fun x hx => (List.mem_append.1 hx).elim (HH.out.2 x) (fun h => by rw [List.mem_singleton.1 h]; exact HE.out))
  exact ⟨_, D', rfl, hle, ⟨_, _, hs ++ [cN e], ws, rfl, hE, wQ.out.mono hle, by show _ = cy RC Q.held (aE e); rw [HG.out, List.map_append, xL.out]; rfl, xJ.out⟩, hs10.drop.drop.drop.drop⟩
abbrev ew : TypeId := 56
theorem RdP.cut {D : PH} {size : Nat} {ao : Option Addr} {n cap : Nat} {xs : List Value} (h : RdP D size (.slice ao n cap) n xs) {lo hi : Nat} (h1 : lo ≤ hi) (h2 : hi ≤ n) : RdP D size (sliced ao lo hi cap size) (hi - lo) ((xs.take (hi * size)).drop (lo * size)) := by
 obtain ⟨a1, a2, ao', cap', h3, h4, h5, h6, h7⟩ := h
 cases h3
 have e1 : hi * size ≤ n * size := Nat.mul_le_mul_right _ h2
 refine ⟨by rw [List.length_drop, List.length_take, a1, Nat.min_eq_left e1, Nat.sub_mul], by omega, _, cap - lo, rfl, by omega, by omega, ?_, ?_⟩
 ·intro h
  split at h
  ·omega
  ·have : ao = none := by cases ao with
    | none => rfl
    | some x => cases h
   have := h6 this
   omega
 ·by_cases hc : cap = lo
  ·exact .inl (by omega)
  ·rcases h7 with h7 | ⟨g, o, rfl, cs, t, fr, h8, h9⟩
   ·exact .inl (by omega)
   ·refine .inr ⟨g, o + lo * size, by rw [if_neg hc]; simp [cn], cs, t, fr, h8, fun j u hu => ?_⟩
    rw [List.getElem?_drop, List.getElem?_take] at hu
    split at hu
    ·rw [Nat.add_assoc]; exact h9 _ u hu
    ·cases hu
theorem EntsD.cut {D : PH} {ao : Option Addr} {N cap : Nat} {hs : List EntE} (h : EntsD D (.slice ao N cap) hs) (hl : hs.length = N) {lo hi : Nat} (h1 : lo ≤ hi) (h2 : hi ≤ N) : EntsD D (sliced ao lo hi cap 18) ((hs.take hi).drop lo) := by
 have hr := h.1
 rw [hl] at hr
 have hc := hr.cut h1 h2
 have e1 : ((hs.take hi).drop lo).length = hi - lo := by rw [List.length_drop, List.length_take]; omega
 refine ⟨?_, fun e he => h.2 e (List.mem_of_mem_take (List.mem_of_mem_drop he))⟩
 rw [e1, ← ge bT, ← cQ bT]
 exact hc
theorem sU (w : World) (ao : Option Addr) (N cap m : Nat) (hm : m ≤ cap) : (Instr.sliceAt ew (.slice ao N cap) none (some (.int .i64 m)) none).run Tryz.prog w = .ok (sliced ao 0 m cap 18) w := by
 have ht : Tryz.prog.underlying ew = some (.slice (Tryz.prog.elem ew)) := by kernel_rfl
 have hz : (Go.sizeOf (Tryz.prog.elem ew)).run Tryz.prog w = .ok 18 w := by kernel_rfl
 rw [run_sliceAt_slice w ew _ _ _ _ ht, run_slice_h w ew ao N cap ht .i64 m (by omega) (by omega), hz]
 rfl
theorem rS (w : World) (ao : Option Addr) (N cap m : Nat) (hm : m ≤ N) : (Instr.sliceAt ew (.slice ao N cap) (some (.int .i64 m)) none none).run Tryz.prog w = .ok (sliced ao m N cap 18) w := by
 have ht : Tryz.prog.underlying ew = some (.slice (Tryz.prog.elem ew)) := by kernel_rfl
 have hz : (Go.sizeOf (Tryz.prog.elem ew)).run Tryz.prog w = .ok 18 w := by kernel_rfl
 rw [run_sliceAt_slice w ew _ _ _ _ ht, run_slice_l w ew ao N cap ht .i64 m (by omega) (by omega), hz]
 rfl
section
variable {ops : Array Oper} {rest : List Oper} {o : Oper} {a : Act} {w : World} {Q : Exit → Act → World → Prop} {D : PH} {ao : Option Addr} {N cap : Nat} {hs : List EntE}
theorem fj (hgd : o.guard = none) (x y : Operand) (ho : o.op = .slice ew x none (some y) none) (m : Nat) (hx : a.eval x = .slice ao N cap) (hy : a.eval y = .int .i64 m) (h : EntsD D (.slice ao N cap) hs) (hl : hs.length = N) (hm : m ≤ N)
  (k : ∀ v, EntsD D v (hs.take m) → wpList Tryz.prog ops Q rest (a.put o.dst v) w) : wpList Tryz.prog ops Q (o :: rest) a w :=
 wpList_plain hgd fun _ hK => by
  have hc : m ≤ cap := by
   obtain ⟨_, _, _, _, h3, h4, _⟩ := h.1
   cases h3
   omega
  have hrun := sU w ao N cap m hc
  unfold Oper.wp execOp
  simp only [ho, Option.map_none, Option.map_some, hx, hy, Sem.run_bind, Sem.run_pure, Result.andThen_ok, hrun]
  exact hK _ _ (k _ (by have := h.cut hl (Nat.zero_le m) hm; rwa [List.drop_zero] at this))
theorem gE (hgd : o.guard = none) (x y : Operand) (ho : o.op = .slice ew x (some y) none none) (m : Nat) (hx : a.eval x = .slice ao N cap) (hy : a.eval y = .int .i64 m) (h : EntsD D (.slice ao N cap) hs) (hl : hs.length = N) (hm : m ≤ N)
  (k : ∀ v, EntsD D v (hs.drop m) → wpList Tryz.prog ops Q rest (a.put o.dst v) w) : wpList Tryz.prog ops Q (o :: rest) a w :=
 wpList_plain hgd fun _ hK => by
  have hrun := rS w ao N cap m hm
  unfold Oper.wp execOp
  simp only [ho, Option.map_none, Option.map_some, hx, hy, Sem.run_bind, Sem.run_pure, Result.andThen_ok, hrun]
  exact hK _ _ (k _ (by have := h.cut hl hm (Nat.le_refl N); rwa [List.take_of_length_le (Nat.le_of_eq hl)] at this))
end
end Go.Proofs.YtgljdkjepdknnaaGreatDoor
