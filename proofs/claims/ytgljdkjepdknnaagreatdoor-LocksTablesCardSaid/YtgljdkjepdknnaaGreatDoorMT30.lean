/- Joined texts: The document's queue: a row of its own (ratlineref10.copied); something is held (give). Parts of a row of entries that lies in the pool. -/
import Derived.Test.YtgljdkjepdknnaaGreatDoorMT20
import Derived.Test.YtgljdkjepdknnaaGreatDoorMT11
import Derived.Test.YtgljdkjepdknnaaGreatDoorMT13
set_option maxHeartbeats 64000000
namespace Go.Proofs.YtgljdkjepdknnaaGreatDoor
open Go.ChangeShapes Go.WideShapes Go.ChangeAt Go.RowKit
set_option maxRecDepth 100000
set_option linter.unusedSimpArgs false
theorem Sat.set2a {B w : World} {D : PH} {l : List HP} {b : Nat} {t : TypeId} {y0 y1 : Value} (hs : Sat B D w (Proofs.YtgljdkjepdknnaaGreatDoor.blk b #[y0, y1] t :: l)) (u : Value) : Sat B D (w.setCell ⟨b, 0, none⟩ u) (Proofs.YtgljdkjepdknnaaGreatDoor.blk b #[u, y1] t :: l) := hs.set 0 u
theorem Sat.set2b {B w : World} {D : PH} {l : List HP} {b : Nat} {t : TypeId} {y0 y1 : Value} (hs : Sat B D w (Proofs.YtgljdkjepdknnaaGreatDoor.blk b #[y0, y1] t :: l)) (u : Value) : Sat B D (w.setCell ⟨b, 1, none⟩ u) (Proofs.YtgljdkjepdknnaaGreatDoor.blk b #[y0, u] t :: l) := hs.set 1 u
theorem Sat.setLess {B w : World} {D : PH} {l : List HP} {b : Nat} {e : EntE} (hs : Sat B D w (Proofs.YtgljdkjepdknnaaGreatDoor.blk b (au e).toArray tRe :: l)) : Sat B D (w.setCell ⟨b, 17, none⟩ (.bool false)) (Proofs.YtgljdkjepdknnaaGreatDoor.blk b (au (cE e)).toArray tRe :: l) := hs.set 17 (.bool false)
abbrev nQ : Array Value := #[.slice none 0 0, .slice none 0 0]
def QueGot (B : World) (D : PH) (l : List HP) (Q : Qm Clm) (r : Ending) (w' : World) : Prop := ∃ (v : Value) (D' : PH), r = .returned v ∧ PH.le D D' ∧ QueD D' v Q ∧ Sat B D' w' l
theorem dF (hs : List EntE) : ∀ u ∈ hs.flatMap au, u.oneCell' = true := fun u hu => by
 obtain ⟨e, _, he⟩ := List.mem_flatMap.1 hu
 exact eA e u he
theorem i9 {B w : World} {D : PH} {l : List HP} {v : Value} {hs : List EntE} (h : EntsD D v hs) (hM : hs.length ≤ 100000) (s : Sat B D w l) :
  Calls Tryz.prog 69 #[v] w fun r w' => ∃ va vc, r = .returned (.slice va hs.length vc) ∧ Sat B D w' (fY (.slice va hs.length vc) hs :: l) := by
 obtain ⟨i0, hi, hz0, hz1, hz2⟩ := info_parts gA
 have HI := BO (And.intro hi (And.intro hz0 (And.intro hz1 hz2)))
 obtain ⟨a, c, rfl, n1, m1, _⟩ := (h.rd s).shape
 have sS := BO (s.own_nil tRe 18)
 have s5 := BO (h.rd s).1
 have H1 := BO (dF hs)
 clear h s hi hz0 hz1 hz2
 go_enter Tryz.func69, Tryz.ntmps69
 go_wp2_with (at_builtin; refine ar _ rfl _ _ 56 rfl tRe i0 _ 18 200 Tryz.underlying56 HI.out.1 HI.out.2.1 HI.out.2.2.1 HI.out.2.2.2 rfl _ 0 _ rfl sS.out _ hs.length _ rfl s5.out H1.out (by unfold maxLen; omega) (by omega) ?_; intro v11 w11 hs11 h11; obtain ⟨va, vc, rfl⟩ := hs11.own_shape; have s6 := BO hs11; clear hs11 h11 sS s5)
 go_ret
 have h9 := s6.out
 rw [Nat.zero_add, List.nil_append] at h9
 exact ⟨va, vc, rfl, h9⟩
theorem iP {B w : World} {D : PH} {l : List HP} {v : Value} {Q : Qm Clm} (e : EntE) (hq : QueD D v Q) (he : ClOk D e.x ∧ bS e.x.c) (hlen : Q.held.length ≤ 100000) (s : Sat B D w l) :
  Calls Tryz.prog 149 #[v, .agg (au e).toArray] w (QueGot B D l (ci RC Q (aG e))) := by
 obtain ⟨hv, wv, hs, ws, rfl, hH, hW, hhq, hwq⟩ := hq
 obtain ⟨i0, hi, hz0, hz1, hz2⟩ := info_parts gA
 have HI := BO (And.intro hi (And.intro hz0 (And.intro hz1 hz2)))
 obtain ⟨wa, wc, rfl⟩ := hW.1.shape
 obtain ⟨W1, hW1, hs1⟩ := dJ s #[hv, .slice wa ws.length wc] (au e).toArray nQ tRq tRe tRq
 obtain ⟨a, c, rfl, n1, m1, _⟩ := (hH.rd hs1).shape
 have hll : hs.length ≤ Q.held.length ∧ Q.held.length ≤ hs.length := by have := congrArg List.length hhq; rw [List.length_map] at this; omega
 have hll2 : hs.length ≤ 100000 := by omega
 have hown := jY (wv := .slice wa ws.length wc) e.o (hH.rd hs1) (he.1.rd hs1)
 rw [fB (cw RC e.o e.x.c) hs, hhq] at hown
 have tL := BO (bi (ai (hs1.blk 0 rfl)))
 have tg := BO (ay (dR (hs1.blk 1 rfl)))
 have x0 := (d5 (hs1.blk 1 rfl)).1
 have sR := BO hW1
 have sS := BO hs1
 have HH := BO hH
 have uN := BO hW
 have vp := BO hhq
 have vv := BO hwq
 have HE := BO he
 clear s hs1 hW1 hi hz0 hz1 hz2 hH hW hhq hwq he
 rcases gL (R := RC) Q.held (aG e).o (aG e).c with ⟨k, ho, hk, hlt⟩ | ⟨ho, hk⟩
 ·have HG := BO (kA ho)
  have hkn : k < hs.length := by omega
  rw [show cl (cw RC e.o e.x.c) Q.held = (k : Int) from hk] at hown
  have uG := BO hown
  clear ho hk hown hlt
  go_enter Tryz.func149, Tryz.ntmps149
  go_upto_region 1 with fail
  rw [← sR.out]
  clear sR
  generalize w.heap.size + 1 + 1 = b3 at *
  generalize w.heap.size + 1 = b2 at *
  generalize w.heap.size = b1 at *
  go_upto_region 2 with (first | (refine ag rfl _ _ rfl _ _ rfl _ tL.out ?_) | (refine ag rfl _ _ rfl _ _ rfl _ tg.out ?_) | (go_at_call 145; refine uG.out.mono ?_; rintro e1 w1 ⟨rfl, hk1⟩; have sX := BO (sS.out.kept hk1); clear hk1 sS uG tL tg x0))
  obtain ⟨q0, _, _⟩ := aH (sX.out.blk 0 rfl)
  go_upto_region 3 with (go_at_call 69; refine (i9 HH.out hll2 sX.out).mono ?_; rintro e3 w3 ⟨va, vc, rfl, hs3⟩; have sU := BO hs3; clear hs3 sX q0)
  have x17 := (d5 (sU.out.blk 2 rfl)).2
  have xf := frz (sU.out.blk 2 rfl)
  have sY := BO (Sat.setLess (sU.out.front 2 rfl))
  go_upto_region 4 with fail
  obtain ⟨W4, hW4, hs4⟩ := Sat.hide sY.out
  rw [← hW4]
  clear hW4 sY sU x17 xf
  obtain ⟨g, rfl⟩ : ∃ g, va = some ⟨g, 0, none⟩ := by
   rcases (hs4.own 1 rfl).2.2 with ⟨h1, h3⟩ | ⟨g, c2, cur, h1, _⟩
   ·omega
   ·cases h1; exact ⟨g, rfl⟩
  have HL := BO (dW (ai (hs4.blk 0 rfl)))
  have sV := BO (show Sat B D W4 (aJ tRe 18 (.slice (some ⟨g, 0, none⟩) hs.length vc) hs.length (hs.flatMap au) :: blk b2 (au (cE e)).toArray tRe :: blk b1 #[.slice a hs.length c, .slice wa ws.length wc] tRq :: blk b3 nQ tRq :: l) from hs4.swap)
  clear hs4
  have hkN : (k : Int) < (hs.length : Int) := by omega
  have hk0 : ¬ ((k : Int) < 0) := by omega
  go_upto_region 7 with (first | (refine ag rfl _ _ rfl _ _ rfl _ HL.out ?_) | (refine ct bM eA rfl _ _ _ rfl tRe g _ k hs.length vc rfl (by omega) (cE e) rfl hs sV.out (by kernel_rfl) hkn rfl ?_; intro w6 hs6; have s0 := BO hs6; clear hs6 sV HL))
  obtain ⟨q0, q1, qf⟩ := aH (s0.out.blk 2 rfl)
  have td := BO (Sat.set2a (s0.out.front 2 rfl) (.slice (some ⟨g, 0, none⟩) hs.length vc))
  go_upto_region 8 with fail
  obtain ⟨W8, hW8, hs8⟩ := Sat.hide td.out
  rw [← hW8]
  clear hW8 td s0 q0 q1 qf
  have zu := BO (bi (ai (hs8.blk 0 rfl)))
  have tj := BO (hs8.front 3 rfl)
  have uh := BO (show ∀ u ∈ [Value.slice (some ⟨g, 0, none⟩) hs.length vc, .slice wa ws.length wc], u.oneCell' = true from fun u hu => by simp at hu; rcases hu with rfl | rfl <;> rfl)
  clear hs8
  go_wp2_with (first | (refine ag rfl _ _ rfl _ _ rfl _ zu.out ?_) | (refine aq rfl _ _ _ rfl tRq b3 rfl [.slice (some ⟨g, 0, none⟩) hs.length vc, .slice wa ws.length wc] rfl nQ tj.out (by kernel_rfl) rfl uh.out ?_; intro w9 hs9; have ti := BO hs9; clear hs9 tj zu))
  refine bodyPost_ret (cC rfl _ _ rfl (bi (ai (ti.out.blk 0 rfl)))) rfl ?_
  obtain ⟨D', hle, hE, hs10⟩ := cX (zs := hs.set k (cE e)) (by show Sat B D w9 (aJ tRe 18 _ (hs.set k (cE e)).length _ :: _); rw [List.length_set]; exact ti.out.front 2 rfl) (fun x hx => (List.mem_or_eq_of_mem_set hx).elim (HH.out.2 x) (fun h => by rw [h]; exact HE.out))
  exact ⟨_, D', rfl, hle, ⟨_, _, hs.set k (cE e), ws, rfl, hE, uN.out.mono hle, by show _ = bX RC Q.held (aG e); rw [HG.out, List.map_set, vp.out]; all_goals rfl, vv.out⟩, hs10.drop.drop.drop⟩
 ·have HG := BO (ka ho)
  rw [show cl (cw RC e.o e.x.c) Q.held = -1 from hk] at hown
  have uG := BO hown
  clear ho hk hown
  go_enter Tryz.func149, Tryz.ntmps149
  go_upto_region 1 with fail
  rw [← sR.out]
  clear sR
  generalize w.heap.size + 1 + 1 = b3 at *
  generalize w.heap.size + 1 = b2 at *
  generalize w.heap.size = b1 at *
  go_upto_region 2 with (first | (refine ag rfl _ _ rfl _ _ rfl _ tL.out ?_) | (refine ag rfl _ _ rfl _ _ rfl _ tg.out ?_) | (go_at_call 145; refine uG.out.mono ?_; rintro e1 w1 ⟨rfl, hk1⟩; have sX := BO (sS.out.kept hk1); clear hk1 sS uG tL tg x0))
  obtain ⟨q0, _, _⟩ := aH (sX.out.blk 0 rfl)
  go_upto_region 3 with (go_at_call 69; refine (i9 HH.out hll2 sX.out).mono ?_; rintro e3 w3 ⟨va, vc, rfl, hs3⟩; have sU := BO hs3; clear hs3 sX q0)
  have x17 := (d5 (sU.out.blk 2 rfl)).2
  have xf := frz (sU.out.blk 2 rfl)
  have sY := BO (Sat.setLess (sU.out.front 2 rfl))
  go_upto_region 4 with fail
  obtain ⟨W4, hW4, hs4⟩ := Sat.hide sY.out
  rw [← hW4]
  clear hW4 sY sU x17 xf
  have HL := BO (dW (ai (hs4.blk 0 rfl)))
  have sV := BO (show Sat B D (W4.alloc (.cells (au (cE e)).toArray tRe)) (aJ tRe 18 (.slice va hs.length vc) hs.length (hs.flatMap au) :: blk W4.heap.size (au (cE e)).toArray tRe :: blk b2 (au (cE e)).toArray tRe :: blk b1 #[.slice a hs.length c, .slice wa ws.length wc] tRq :: blk b3 nQ tRq :: l) from (hs4.alloc _ _).front 2 rfl)
  have s5 := BO (aT (size := 18) (n := 1) (sV.out.blk 1 rfl) (by simp [bM]) (by unfold maxLen; omega))
  clear hs4
  go_upto_region 7 with (first | (refine ag rfl _ _ rfl _ _ rfl _ HL.out ?_) | (refine aC rfl _ _ rfl tRe i0 _ (au (cE e)) rfl Tryz.underlying56 HI.out.1 HI.out.2.1 (HI.out.2.2.1.trans rfl) (by rw [bM]; decide) (by rw [bM]; decide) ?_) | (at_builtin; refine ar _ rfl _ _ 56 rfl tRe i0 _ 18 200 Tryz.underlying56 HI.out.1 HI.out.2.1 HI.out.2.2.1 HI.out.2.2.2 rfl _ hs.length _ rfl sV.out _ 1 _ rfl s5.out (by simpa using eA (cE e)) (by unfold maxLen; omega) (by omega) ?_; intro v11 w11 hs11 h11; obtain ⟨va2, vc2, rfl⟩ := hs11.own_shape; have s0 := BO hs11; clear hs11 h11 sV s5 HL))
  obtain ⟨q0, q1, qf⟩ := aH (s0.out.blk 3 rfl)
  have td := BO (Sat.set2a (s0.out.front 3 rfl) (.slice va2 (hs.length + 1) vc2))
  go_upto_region 8 with fail
  obtain ⟨W8, hW8, hs8⟩ := Sat.hide td.out
  rw [← hW8]
  clear hW8 td s0 q0 q1 qf
  have zu := BO (bi (ai (hs8.blk 0 rfl)))
  have tj := BO (hs8.front 4 rfl)
  have uh := BO (show ∀ u ∈ [Value.slice va2 (hs.length + 1) vc2, .slice wa ws.length wc], u.oneCell' = true from fun u hu => by simp at hu; rcases hu with rfl | rfl <;> rfl)
  clear hs8
  go_wp2_with (first | (refine ag rfl _ _ rfl _ _ rfl _ zu.out ?_) | (refine aq rfl _ _ _ rfl tRq b3 rfl [.slice va2 (hs.length + 1) vc2, .slice wa ws.length wc] rfl nQ tj.out (by kernel_rfl) rfl uh.out ?_; intro w9 hs9; have ti := BO hs9; clear hs9 tj zu))
  refine bodyPost_ret (cC rfl _ _ rfl (bi (ai (ti.out.blk 0 rfl)))) rfl ?_
  obtain ⟨D', hle, hE, hs10⟩ := cX (zs := hs ++ [cE e]) (v := .slice va2 (hs.length + 1) vc2) (by show Sat B D w9 (aJ tRe 18 _ (hs ++ [cE e]).length ((hs ++ [cE e]).flatMap au) :: _); rw [List.length_append, List.flatMap_append]; have h9 := ti.out.front 2 rfl; simpa using h9) (fun x hx => (List.mem_append.1 hx).elim (HH.out.2 x) (fun h => by rw [List.mem_singleton.1 h]; exact HE.out))
  exact ⟨_, D', rfl, hle, ⟨_, _, hs ++ [cE e], ws, rfl, hE, uN.out.mono hle, by show _ = bX RC Q.held (aG e); rw [HG.out, List.map_append, vp.out]; rfl, vv.out⟩, hs10.drop.drop.drop.drop⟩
abbrev d9 : TypeId := 56
theorem RdP.cut {D : PH} {size : Nat} {ao : Option Addr} {n cap : Nat} {xs : List Value} (h : RdP D size (.slice ao n cap) n xs) {lo hi : Nat} (h1 : lo ≤ hi) (h2 : hi ≤ n) : RdP D size (sliced ao lo hi cap size) (hi - lo) ((xs.take (hi * size)).drop (lo * size)) := by
 obtain ⟨a1, a2, ao', cap', h3, h4, h5, h6, h7⟩ := h
 cases h3
 have e1 : hi * size ≤ n * size := Nat.mul_le_mul_right _ h2
 refine ⟨by rw [List.length_drop, List.length_take, a1, Nat.min_eq_left e1, Nat.sub_mul], by omega, _, cap - lo, rfl, by omega, by omega, ?_, ?_⟩
 ·intro h
  split at h
  ·omega
  ·have : ao = none := by cases ao with
    | none => rfl
    | some x => cases h
   have := h6 this
   omega
 ·by_cases hc : cap = lo
  ·exact .inl (by omega)
  ·rcases h7 with h7 | ⟨g, o, rfl, cs, t, fr, h8, h9⟩
   ·exact .inl (by omega)
   ·refine .inr ⟨g, o + lo * size, by rw [if_neg hc]; simp [bZ], cs, t, fr, h8, fun j u hu => ?_⟩
    rw [List.getElem?_drop, List.getElem?_take] at hu
    split at hu
    ·rw [Nat.add_assoc]; exact h9 _ u hu
    ·cases hu
theorem EntsD.cut {D : PH} {ao : Option Addr} {N cap : Nat} {hs : List EntE} (h : EntsD D (.slice ao N cap) hs) (hl : hs.length = N) {lo hi : Nat} (h1 : lo ≤ hi) (h2 : hi ≤ N) : EntsD D (sliced ao lo hi cap 18) ((hs.take hi).drop lo) := by
 have hr := h.1
 rw [hl] at hr
 have hc := hr.cut h1 h2
 have e1 : ((hs.take hi).drop lo).length = hi - lo := by rw [List.length_drop, List.length_take]; omega
 refine ⟨?_, fun e he => h.2 e (List.mem_of_mem_take (List.mem_of_mem_drop he))⟩
 rw [e1, ← fq bM, ← cF bM]
 exact hc
theorem qA (w : World) (ao : Option Addr) (N cap m : Nat) (hm : m ≤ cap) : (Instr.sliceAt d9 (.slice ao N cap) none (some (.int .i64 m)) none).run Tryz.prog w = .ok (sliced ao 0 m cap 18) w := by
 have ht : Tryz.prog.underlying d9 = some (.slice (Tryz.prog.elem d9)) := by kernel_rfl
 have hz : (Go.sizeOf (Tryz.prog.elem d9)).run Tryz.prog w = .ok 18 w := by kernel_rfl
 rw [run_sliceAt_slice w d9 _ _ _ _ ht, run_slice_h w d9 ao N cap ht .i64 m (by omega) (by omega), hz]
 rfl
theorem qn (w : World) (ao : Option Addr) (N cap m : Nat) (hm : m ≤ N) : (Instr.sliceAt d9 (.slice ao N cap) (some (.int .i64 m)) none none).run Tryz.prog w = .ok (sliced ao m N cap 18) w := by
 have ht : Tryz.prog.underlying d9 = some (.slice (Tryz.prog.elem d9)) := by kernel_rfl
 have hz : (Go.sizeOf (Tryz.prog.elem d9)).run Tryz.prog w = .ok 18 w := by kernel_rfl
 rw [run_sliceAt_slice w d9 _ _ _ _ ht, run_slice_l w d9 ao N cap ht .i64 m (by omega) (by omega), hz]
 rfl
section
variable {ops : Array Oper} {rest : List Oper} {o : Oper} {a : Act} {w : World} {Q : Exit → Act → World → Prop} {D : PH} {ao : Option Addr} {N cap : Nat} {hs : List EntE}
theorem fN (hgd : o.guard = none) (x y : Operand) (ho : o.op = .slice d9 x none (some y) none) (m : Nat) (hx : a.eval x = .slice ao N cap) (hy : a.eval y = .int .i64 m) (h : EntsD D (.slice ao N cap) hs) (hl : hs.length = N) (hm : m ≤ N)
  (k : ∀ v, EntsD D v (hs.take m) → wpList Tryz.prog ops Q rest (a.put o.dst v) w) : wpList Tryz.prog ops Q (o :: rest) a w :=
 wpList_plain hgd fun _ hK => by
  have hc : m ≤ cap := by
   obtain ⟨_, _, _, _, h3, h4, _⟩ := h.1
   cases h3
   omega
  have hrun := qA w ao N cap m hc
  unfold Oper.wp execOp
  simp only [ho, Option.map_none, Option.map_some, hx, hy, Sem.run_bind, Sem.run_pure, Result.andThen_ok, hrun]
  exact hK _ _ (k _ (by have := h.cut hl (Nat.zero_le m) hm; rwa [List.drop_zero] at this))
theorem fU (hgd : o.guard = none) (x y : Operand) (ho : o.op = .slice d9 x (some y) none none) (m : Nat) (hx : a.eval x = .slice ao N cap) (hy : a.eval y = .int .i64 m) (h : EntsD D (.slice ao N cap) hs) (hl : hs.length = N) (hm : m ≤ N)
  (k : ∀ v, EntsD D v (hs.drop m) → wpList Tryz.prog ops Q rest (a.put o.dst v) w) : wpList Tryz.prog ops Q (o :: rest) a w :=
 wpList_plain hgd fun _ hK => by
  have hrun := qn w ao N cap m hm
  unfold Oper.wp execOp
  simp only [ho, Option.map_none, Option.map_some, hx, hy, Sem.run_bind, Sem.run_pure, Result.andThen_ok, hrun]
  exact hK _ _ (k _ (by have := h.cut hl hm (Nat.le_refl N); rwa [List.take_of_length_le (Nat.le_of_eq hl)] at this))
end
end Go.Proofs.YtgljdkjepdknnaaGreatDoor
