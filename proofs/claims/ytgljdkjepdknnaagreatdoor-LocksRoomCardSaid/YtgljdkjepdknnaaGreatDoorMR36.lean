/- Joined texts: The document's queue: a row of its own (ratlineref10.copied); something is held (give). Parts of a row of entries that lies in the pool. -/
import Derived.Test.YtgljdkjepdknnaaGreatDoorMR25
import Derived.Test.YtgljdkjepdknnaaGreatDoorMR13
import Derived.Test.YtgljdkjepdknnaaGreatDoorMR15
/- The document's queue: a row of its own (ratlineref10.copied); something is held (give). -/
namespace Go.Proofs.YtgljdkjepdknnaaGreatDoor
open Go.ChangeShapes Go.WideShapes Go.ChangeAt Go.RowKit
set_option maxRecDepth 100000
set_option linter.unusedSimpArgs false

theorem Sat.set2a {B w : World} {D : PH} {l : List HP} {b : Nat} {t : TypeId} {y0 y1 : Value} (hs : Sat B D w (Proofs.YtgljdkjepdknnaaGreatDoor.blk b #[y0, y1] t :: l)) (u : Value) : Sat B D (w.setCell ⟨b, 0, none⟩ u) (Proofs.YtgljdkjepdknnaaGreatDoor.blk b #[u, y1] t :: l) := hs.set 0 u
theorem Sat.set2b {B w : World} {D : PH} {l : List HP} {b : Nat} {t : TypeId} {y0 y1 : Value} (hs : Sat B D w (Proofs.YtgljdkjepdknnaaGreatDoor.blk b #[y0, y1] t :: l)) (u : Value) : Sat B D (w.setCell ⟨b, 1, none⟩ u) (Proofs.YtgljdkjepdknnaaGreatDoor.blk b #[y0, u] t :: l) := hs.set 1 u
theorem Sat.setLess {B w : World} {D : PH} {l : List HP} {b : Nat} {e : EntE} (hs : Sat B D w (Proofs.YtgljdkjepdknnaaGreatDoor.blk b (cellsC e).toArray tRe :: l)) : Sat B D (w.setCell ⟨b, 17, none⟩ (.bool false)) (Proofs.YtgljdkjepdknnaaGreatDoor.blk b (cellsC (lessC e)).toArray tRe :: l) := hs.set 17 (.bool false)
abbrev nQ : Array Value := #[.slice none 0 0, .slice none 0 0]
def QueGot (B : World) (D : PH) (l : List HP) (Q : Qm Clm) (r : Ending) (w' : World) : Prop := ∃ (v : Value) (D' : PH), r = .returned v ∧ PH.le D D' ∧ QueD D' v Q ∧ Sat B D' w' l
theorem flat_one18 (hs : List EntE) : ∀ u ∈ hs.flatMap cellsC, u.oneCell' = true := fun u hu => by
 obtain ⟨e, _, he⟩ := List.mem_flatMap.1 hu
 exact oneC e u he
set_option maxHeartbeats 8000000 in
theorem rqCopied_ok {B w : World} {D : PH} {l : List HP} {v : Value} {hs : List EntE} (h : EntsD D v hs) (hM : hs.length ≤ 100000) (s : Sat B D w l) :
  Calls Tryz.prog 69 #[v] w fun r w' => ∃ va vc, r = .returned (.slice va hs.length vc) ∧ Sat B D w' (entsR (.slice va hs.length vc) hs :: l) := by
 obtain ⟨i0, hi, hz0, hz1, hz2⟩ := info_parts infoRe
 have HI := Lib.hid (And.intro hi (And.intro hz0 (And.intro hz1 hz2)))
 obtain ⟨a, c, rfl, n1, m1, _⟩ := (h.rd s).shape
 have HS1 := Lib.hid (s.own_nil tRe 18)
 have HRD := Lib.hid (h.rd s).1
 have H1 := Lib.hid (flat_one18 hs)
 clear h s hi hz0 hz1 hz2
 go_enter Tryz.func69, Tryz.ntmps69
 go_wp2_with (at_builtin; refine wpList_append_Sat _ rfl _ _ 56 rfl tRe i0 _ 18 200 Tryz.underlying56 HI.out.1 HI.out.2.1 HI.out.2.2.1 HI.out.2.2.2 rfl _ 0 _ rfl HS1.out _ hs.length _ rfl HRD.out H1.out (by unfold maxLen; omega) (by omega) ?_; intro v11 w11 hs11 h11; obtain ⟨va, vc, rfl⟩ := hs11.own_shape; have HS11 := Lib.hid hs11; clear hs11 h11 HS1 HRD)
 go_ret
 have h9 := HS11.out
 rw [Nat.zero_add, List.nil_append] at h9
 exact ⟨va, vc, rfl, h9⟩
set_option maxHeartbeats 8000000 in
theorem rqGive_ok {B w : World} {D : PH} {l : List HP} {v : Value} {Q : Qm Clm} (e : EntE) (hq : QueD D v Q) (he : ClOk D e.x ∧ ClmFit e.x.c) (hlen : Q.held.length ≤ 100000) (s : Sat B D w l) :
  Calls Tryz.prog 149 #[v, .agg (cellsC e).toArray] w (QueGot B D l (giveQ RC Q (entC e))) := by
 obtain ⟨hv, wv, hs, ws, rfl, hH, hW, hhq, hwq⟩ := hq
 obtain ⟨i0, hi, hz0, hz1, hz2⟩ := info_parts infoRe
 have HI := Lib.hid (And.intro hi (And.intro hz0 (And.intro hz1 hz2)))
 obtain ⟨wa, wc, rfl⟩ := hW.1.shape
 obtain ⟨W1, hW1, hs1⟩ := three_new s #[hv, .slice wa ws.length wc] (cellsC e).toArray nQ tRq tRe tRq
 obtain ⟨a, c, rfl, n1, m1, _⟩ := (hH.rd hs1).shape
 have hll : hs.length ≤ Q.held.length ∧ Q.held.length ≤ hs.length := by have := congrArg List.length hhq; rw [List.length_map] at this; omega
 have hll2 : hs.length ≤ 100000 := by omega
 have hown := rqOwn_ok (wv := .slice wa ws.length wc) e.o (hH.rd hs1) (he.1.rd hs1)
 rw [idx_map_C (sameE RC e.o e.x.c) hs, hhq] at hown
 have HLQ := Lib.hid (loadQ2 (blk_range (hs1.blk 0 rfl)))
 have HLC := Lib.hid (loadCl (boxCl (hs1.blk 1 rfl)))
 have x0 := (boxC (hs1.blk 1 rfl)).1
 have HW1 := Lib.hid hW1
 have HS1 := Lib.hid hs1
 have HH := Lib.hid hH
 have HWD := Lib.hid hW
 have HHQ := Lib.hid hhq
 have HWQ := Lib.hid hwq
 have HE := Lib.hid he
 clear s hs1 hW1 hi hz0 hz1 hz2 hH hW hhq hwq he
 rcases own_cases (R := RC) Q.held (entC e).o (entC e).c with ⟨k, ho, hk, hlt⟩ | ⟨ho, hk⟩
 ·have HG := Lib.hid (giveL_some ho)
  have hkn : k < hs.length := by omega
  rw [show idxI (sameE RC e.o e.x.c) Q.held = (k : Int) from hk] at hown
  have HOWN := Lib.hid hown
  clear ho hk hown hlt
  go_enter Tryz.func149, Tryz.ntmps149
  go_upto_region 1 with fail
  rw [← HW1.out]
  clear HW1
  generalize w.heap.size + 1 + 1 = b3 at *
  generalize w.heap.size + 1 = b2 at *
  generalize w.heap.size = b1 at *
  go_upto_region 2 with (first | (refine wpList_ld rfl _ _ rfl _ _ rfl _ HLQ.out ?_) | (refine wpList_ld rfl _ _ rfl _ _ rfl _ HLC.out ?_) | (go_at_call 145; refine HOWN.out.mono ?_; rintro e1 w1 ⟨rfl, hk1⟩; have HS2 := Lib.hid (HS1.out.kept hk1); clear hk1 HS1 HOWN HLQ HLC x0))
  obtain ⟨q0, _, _⟩ := cells2 (HS2.out.blk 0 rfl)
  go_upto_region 3 with (go_at_call 69; refine (rqCopied_ok HH.out hll2 HS2.out).mono ?_; rintro e3 w3 ⟨va, vc, rfl, hs3⟩; have HS3 := Lib.hid hs3; clear hs3 HS2 q0)
  have x17 := (boxC (HS3.out.blk 2 rfl)).2
  have xf := frz (HS3.out.blk 2 rfl)
  have HS4 := Lib.hid (Sat.setLess (HS3.out.front 2 rfl))
  go_upto_region 4 with fail
  obtain ⟨W4, hW4, hs4⟩ := Sat.hide HS4.out
  rw [← hW4]
  clear hW4 HS4 HS3 x17 xf
  obtain ⟨g, rfl⟩ : ∃ g, va = some ⟨g, 0, none⟩ := by
   rcases (hs4.own 1 rfl).2.2 with ⟨h1, h3⟩ | ⟨g, c2, cur, h1, _⟩
   ·omega
   ·cases h1; exact ⟨g, rfl⟩
  have HL := Lib.hid (loadRe (blk_range (hs4.blk 0 rfl)))
  have HS5 := Lib.hid (show Sat B D W4 (ownS tRe 18 (.slice (some ⟨g, 0, none⟩) hs.length vc) hs.length (hs.flatMap cellsC) :: blk b2 (cellsC (lessC e)).toArray tRe :: blk b1 #[.slice a hs.length c, .slice wa ws.length wc] tRq :: blk b3 nQ tRq :: l) from hs4.swap)
  clear hs4
  have hkN : (k : Int) < (hs.length : Int) := by omega
  have hk0 : ¬ ((k : Int) < 0) := by omega
  go_upto_region 7 with (first | (refine wpList_ld rfl _ _ rfl _ _ rfl _ HL.out ?_) | (refine wpList_store_elem lenC oneC rfl _ _ _ rfl tRe g _ k hs.length vc rfl (by omega) (lessC e) rfl hs HS5.out (by kernel_rfl) hkn rfl ?_; intro w6 hs6; have HS6 := Lib.hid hs6; clear hs6 HS5 HL))
  obtain ⟨q0, q1, qf⟩ := cells2 (HS6.out.blk 2 rfl)
  have HS7 := Lib.hid (Sat.set2a (HS6.out.front 2 rfl) (.slice (some ⟨g, 0, none⟩) hs.length vc))
  go_upto_region 8 with fail
  obtain ⟨W8, hW8, hs8⟩ := Sat.hide HS7.out
  rw [← hW8]
  clear hW8 HS7 HS6 q0 q1 qf
  have HL8 := Lib.hid (loadQ2 (blk_range (hs8.blk 0 rfl)))
  have HS8 := Lib.hid (hs8.front 3 rfl)
  have HONE := Lib.hid (show ∀ u ∈ [Value.slice (some ⟨g, 0, none⟩) hs.length vc, .slice wa ws.length wc], u.oneCell' = true from fun u hu => by simp at hu; rcases hu with rfl | rfl <;> rfl)
  clear hs8
  go_wp2_with (first | (refine wpList_ld rfl _ _ rfl _ _ rfl _ HL8.out ?_) | (refine wpList_store_whole rfl _ _ _ rfl tRq b3 rfl [.slice (some ⟨g, 0, none⟩) hs.length vc, .slice wa ws.length wc] rfl nQ HS8.out (by kernel_rfl) rfl HONE.out ?_; intro w9 hs9; have HS9 := Lib.hid hs9; clear hs9 HS8 HL8))
  refine bodyPost_ret (results_c1 rfl _ _ rfl (loadQ2 (blk_range (HS9.out.blk 0 rfl)))) rfl ?_
  obtain ⟨D', hle, hE, hs10⟩ := entsR_give (zs := hs.set k (lessC e)) (by show Sat B D w9 (ownS tRe 18 _ (hs.set k (lessC e)).length _ :: _); rw [List.length_set]; exact HS9.out.front 2 rfl) (fun x hx => (List.mem_or_eq_of_mem_set hx).elim (HH.out.2 x) (fun h => by rw [h]; exact HE.out))
  exact ⟨_, D', rfl, hle, ⟨_, _, hs.set k (lessC e), ws, rfl, hE, HWD.out.mono hle, by show _ = giveL RC Q.held (entC e); rw [HG.out, List.map_set, HHQ.out]; all_goals rfl, HWQ.out⟩, hs10.drop.drop.drop⟩
 ·have HG := Lib.hid (giveL_none ho)
  rw [show idxI (sameE RC e.o e.x.c) Q.held = -1 from hk] at hown
  have HOWN := Lib.hid hown
  clear ho hk hown
  go_enter Tryz.func149, Tryz.ntmps149
  go_upto_region 1 with fail
  rw [← HW1.out]
  clear HW1
  generalize w.heap.size + 1 + 1 = b3 at *
  generalize w.heap.size + 1 = b2 at *
  generalize w.heap.size = b1 at *
  go_upto_region 2 with (first | (refine wpList_ld rfl _ _ rfl _ _ rfl _ HLQ.out ?_) | (refine wpList_ld rfl _ _ rfl _ _ rfl _ HLC.out ?_) | (go_at_call 145; refine HOWN.out.mono ?_; rintro e1 w1 ⟨rfl, hk1⟩; have HS2 := Lib.hid (HS1.out.kept hk1); clear hk1 HS1 HOWN HLQ HLC x0))
  obtain ⟨q0, _, _⟩ := cells2 (HS2.out.blk 0 rfl)
  go_upto_region 3 with (go_at_call 69; refine (rqCopied_ok HH.out hll2 HS2.out).mono ?_; rintro e3 w3 ⟨va, vc, rfl, hs3⟩; have HS3 := Lib.hid hs3; clear hs3 HS2 q0)
  have x17 := (boxC (HS3.out.blk 2 rfl)).2
  have xf := frz (HS3.out.blk 2 rfl)
  have HS4 := Lib.hid (Sat.setLess (HS3.out.front 2 rfl))
  go_upto_region 4 with fail
  obtain ⟨W4, hW4, hs4⟩ := Sat.hide HS4.out
  rw [← hW4]
  clear hW4 HS4 HS3 x17 xf
  have HL := Lib.hid (loadRe (blk_range (hs4.blk 0 rfl)))
  have HS5 := Lib.hid (show Sat B D (W4.alloc (.cells (cellsC (lessC e)).toArray tRe)) (ownS tRe 18 (.slice va hs.length vc) hs.length (hs.flatMap cellsC) :: blk W4.heap.size (cellsC (lessC e)).toArray tRe :: blk b2 (cellsC (lessC e)).toArray tRe :: blk b1 #[.slice a hs.length c, .slice wa ws.length wc] tRq :: blk b3 nQ tRq :: l) from (hs4.alloc _ _).front 2 rfl)
  have HRD := Lib.hid (rd_block (size := 18) (n := 1) (HS5.out.blk 1 rfl) (by simp [lenC]) (by unfold maxLen; omega))
  clear hs4
  go_upto_region 7 with (first | (refine wpList_ld rfl _ _ rfl _ _ rfl _ HL.out ?_) | (refine wpList_build_one rfl _ _ rfl tRe i0 _ (cellsC (lessC e)) rfl Tryz.underlying56 HI.out.1 HI.out.2.1 (HI.out.2.2.1.trans rfl) (by rw [lenC]; decide) (by rw [lenC]; decide) ?_) | (at_builtin; refine wpList_append_Sat _ rfl _ _ 56 rfl tRe i0 _ 18 200 Tryz.underlying56 HI.out.1 HI.out.2.1 HI.out.2.2.1 HI.out.2.2.2 rfl _ hs.length _ rfl HS5.out _ 1 _ rfl HRD.out (by simpa using oneC (lessC e)) (by unfold maxLen; omega) (by omega) ?_; intro v11 w11 hs11 h11; obtain ⟨va2, vc2, rfl⟩ := hs11.own_shape; have HS6 := Lib.hid hs11; clear hs11 h11 HS5 HRD HL))
  obtain ⟨q0, q1, qf⟩ := cells2 (HS6.out.blk 3 rfl)
  have HS7 := Lib.hid (Sat.set2a (HS6.out.front 3 rfl) (.slice va2 (hs.length + 1) vc2))
  go_upto_region 8 with fail
  obtain ⟨W8, hW8, hs8⟩ := Sat.hide HS7.out
  rw [← hW8]
  clear hW8 HS7 HS6 q0 q1 qf
  have HL8 := Lib.hid (loadQ2 (blk_range (hs8.blk 0 rfl)))
  have HS8 := Lib.hid (hs8.front 4 rfl)
  have HONE := Lib.hid (show ∀ u ∈ [Value.slice va2 (hs.length + 1) vc2, .slice wa ws.length wc], u.oneCell' = true from fun u hu => by simp at hu; rcases hu with rfl | rfl <;> rfl)
  clear hs8
  go_wp2_with (first | (refine wpList_ld rfl _ _ rfl _ _ rfl _ HL8.out ?_) | (refine wpList_store_whole rfl _ _ _ rfl tRq b3 rfl [.slice va2 (hs.length + 1) vc2, .slice wa ws.length wc] rfl nQ HS8.out (by kernel_rfl) rfl HONE.out ?_; intro w9 hs9; have HS9 := Lib.hid hs9; clear hs9 HS8 HL8))
  refine bodyPost_ret (results_c1 rfl _ _ rfl (loadQ2 (blk_range (HS9.out.blk 0 rfl)))) rfl ?_
  obtain ⟨D', hle, hE, hs10⟩ := entsR_give (zs := hs ++ [lessC e]) (v := .slice va2 (hs.length + 1) vc2) (by show Sat B D w9 (ownS tRe 18 _ (hs ++ [lessC e]).length ((hs ++ [lessC e]).flatMap cellsC) :: _); rw [List.length_append, List.flatMap_append]; have h9 := HS9.out.front 2 rfl; simpa using h9) (fun x hx => (List.mem_append.1 hx).elim (HH.out.2 x) (fun h => by rw [List.mem_singleton.1 h]; exact HE.out))
  exact ⟨_, D', rfl, hle, ⟨_, _, hs ++ [lessC e], ws, rfl, hE, HWD.out.mono hle, by show _ = giveL RC Q.held (entC e); rw [HG.out, List.map_append, HHQ.out]; rfl, HWQ.out⟩, hs10.drop.drop.drop.drop⟩
end Go.Proofs.YtgljdkjepdknnaaGreatDoor

/- Parts of a row of entries that lies in the pool. -/
namespace Go.Proofs.YtgljdkjepdknnaaGreatDoor
open Go.ChangeShapes Go.WideShapes Go.ChangeAt Go.RowKit
set_option maxRecDepth 100000
set_option linter.unusedSimpArgs false

abbrev tREs : TypeId := 56
theorem RdP.cut {D : PH} {size : Nat} {ao : Option Addr} {n cap : Nat} {xs : List Value} (h : RdP D size (.slice ao n cap) n xs) {lo hi : Nat} (h1 : lo ≤ hi) (h2 : hi ≤ n) : RdP D size (sliced ao lo hi cap size) (hi - lo) ((xs.take (hi * size)).drop (lo * size)) := by
 obtain ⟨a1, a2, ao', cap', h3, h4, h5, h6, h7⟩ := h
 cases h3
 have e1 : hi * size ≤ n * size := Nat.mul_le_mul_right _ h2
 refine ⟨by rw [List.length_drop, List.length_take, a1, Nat.min_eq_left e1, Nat.sub_mul], by omega, _, cap - lo, rfl, by omega, by omega, ?_, ?_⟩
 ·intro h
  split at h
  ·omega
  ·have : ao = none := by cases ao with
    | none => rfl
    | some x => cases h
   have := h6 this
   omega
 ·by_cases hc : cap = lo
  ·exact .inl (by omega)
  ·rcases h7 with h7 | ⟨g, o, rfl, cs, t, fr, h8, h9⟩
   ·exact .inl (by omega)
   ·refine .inr ⟨g, o + lo * size, by rw [if_neg hc]; simp [add_none], cs, t, fr, h8, fun j u hu => ?_⟩
    rw [List.getElem?_drop, List.getElem?_take] at hu
    split at hu
    ·rw [Nat.add_assoc]; exact h9 _ u hu
    ·cases hu
theorem EntsD.cut {D : PH} {ao : Option Addr} {N cap : Nat} {hs : List EntE} (h : EntsD D (.slice ao N cap) hs) (hl : hs.length = N) {lo hi : Nat} (h1 : lo ≤ hi) (h2 : hi ≤ N) : EntsD D (sliced ao lo hi cap 18) ((hs.take hi).drop lo) := by
 have hr := h.1
 rw [hl] at hr
 have hc := hr.cut h1 h2
 have e1 : ((hs.take hi).drop lo).length = hi - lo := by rw [List.length_drop, List.length_take]; omega
 refine ⟨?_, fun e he => h.2 e (List.mem_of_mem_take (List.mem_of_mem_drop he))⟩
 rw [e1, ← flat_drop lenC, ← flat_take lenC]
 exact hc
theorem run_cut_h (w : World) (ao : Option Addr) (N cap m : Nat) (hm : m ≤ cap) : (Instr.sliceAt tREs (.slice ao N cap) none (some (.int .i64 m)) none).run Tryz.prog w = .ok (sliced ao 0 m cap 18) w := by
 have ht : Tryz.prog.underlying tREs = some (.slice (Tryz.prog.elem tREs)) := by kernel_rfl
 have hz : (Go.sizeOf (Tryz.prog.elem tREs)).run Tryz.prog w = .ok 18 w := by kernel_rfl
 rw [run_sliceAt_slice w tREs _ _ _ _ ht, run_slice_h w tREs ao N cap ht .i64 m (by omega) (by omega), hz]
 rfl
theorem run_cut_l (w : World) (ao : Option Addr) (N cap m : Nat) (hm : m ≤ N) : (Instr.sliceAt tREs (.slice ao N cap) (some (.int .i64 m)) none none).run Tryz.prog w = .ok (sliced ao m N cap 18) w := by
 have ht : Tryz.prog.underlying tREs = some (.slice (Tryz.prog.elem tREs)) := by kernel_rfl
 have hz : (Go.sizeOf (Tryz.prog.elem tREs)).run Tryz.prog w = .ok 18 w := by kernel_rfl
 rw [run_sliceAt_slice w tREs _ _ _ _ ht, run_slice_l w tREs ao N cap ht .i64 m (by omega) (by omega), hz]
 rfl
section
variable {ops : Array Oper} {rest : List Oper} {o : Oper} {a : Act} {w : World} {Q : Exit → Act → World → Prop} {D : PH} {ao : Option Addr} {N cap : Nat} {hs : List EntE}
theorem wpList_cut_h (hgd : o.guard = none) (x y : Operand) (ho : o.op = .slice tREs x none (some y) none) (m : Nat) (hx : a.eval x = .slice ao N cap) (hy : a.eval y = .int .i64 m) (h : EntsD D (.slice ao N cap) hs) (hl : hs.length = N) (hm : m ≤ N)
  (k : ∀ v, EntsD D v (hs.take m) → wpList Tryz.prog ops Q rest (a.put o.dst v) w) : wpList Tryz.prog ops Q (o :: rest) a w :=
 wpList_plain hgd fun _ hK => by
  have hc : m ≤ cap := by
   obtain ⟨_, _, _, _, h3, h4, _⟩ := h.1
   cases h3
   omega
  have hrun := run_cut_h w ao N cap m hc
  unfold Oper.wp execOp
  simp only [ho, Option.map_none, Option.map_some, hx, hy, Sem.run_bind, Sem.run_pure, Result.andThen_ok, hrun]
  exact hK _ _ (k _ (by have := h.cut hl (Nat.zero_le m) hm; rwa [List.drop_zero] at this))
theorem wpList_cut_l (hgd : o.guard = none) (x y : Operand) (ho : o.op = .slice tREs x (some y) none none) (m : Nat) (hx : a.eval x = .slice ao N cap) (hy : a.eval y = .int .i64 m) (h : EntsD D (.slice ao N cap) hs) (hl : hs.length = N) (hm : m ≤ N)
  (k : ∀ v, EntsD D v (hs.drop m) → wpList Tryz.prog ops Q rest (a.put o.dst v) w) : wpList Tryz.prog ops Q (o :: rest) a w :=
 wpList_plain hgd fun _ hK => by
  have hrun := run_cut_l w ao N cap m hm
  unfold Oper.wp execOp
  simp only [ho, Option.map_none, Option.map_some, hx, hy, Sem.run_bind, Sem.run_pure, Result.andThen_ok, hrun]
  exact hK _ _ (k _ (by have := h.cut hl hm (Nat.le_refl N); rwa [List.take_of_length_le (Nat.le_of_eq hl)] at this))
end
end Go.Proofs.YtgljdkjepdknnaaGreatDoor
