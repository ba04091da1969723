/- Joined texts: The document's rising rows, and for whom somebody waits (ratlineref10.Put, Queue.Blockers). Two rows of claims that are the same in all fields (ratlineref10.Same). For whom somebody waits, of the document's queue (ratlineref10.Queue.Blockers). -/
import Derived.Test.YtgljdkjepdknnaaGreatDoorML33
import Derived.Test.YtgljdkjepdknnaaGreatDoorML47
import Derived.Test.YtgljdkjepdknnaaGreatDoorML17
import Derived.Test.YtgljdkjepdknnaaGreatDoorML30
set_option maxHeartbeats 64000000
namespace Go.Proofs.YtgljdkjepdknnaaGreatDoor
open Go.ChangeShapes Go.WideShapes Go.ChangeAt Go.RowKit
set_option maxRecDepth 100000
set_option linter.unusedSimpArgs false
abbrev j8 (D : PH) (v : Value) (l : List Int) : Prop := RdP D 1 v l.length (l.map (Value.int .i64))
theorem intAtE {w : World} {v : Value} {ds : List Int} {k : Nat} {d : Int} (h : jV w v ds) (hd : ds[k]? = some d) : ∃ g o c, v = .slice (some ⟨g, o, none⟩) ds.length c ∧ w.cell? ⟨g, o + k, none⟩ = some (.int .i64 d) := by
 obtain ⟨_, _, a, c, rfl, _, _, _, hc⟩ := h
 have hlt := (List.getElem?_eq_some_iff.1 hd).1
 rcases hc with h0 | ⟨g, o, rfl, hc⟩
 ·omega
 ·exact ⟨g, o, c, rfl, hc k _ (by rw [List.getElem?_map, hd]; rfl)⟩
theorem tJ {L : List Int} {n : Int} {k : Nat} (hR : lN L) (h1 : ∀ x ∈ L.take k, x < n) (h2 : ∀ d, L[k]? = some d → n < d) : eW L n = L.take k ++ [n] ++ L.drop k := by
 have hd : ∀ x ∈ L.drop k, n < x := by
  intro x hx
  obtain ⟨i, hi, rfl⟩ := List.mem_iff_getElem.1 hx
  rw [List.length_drop] at hi
  have hk : k < L.length := by omega
  have h3 := h2 _ (List.getElem?_eq_getElem hk)
  rw [List.getElem_drop]
  by_cases h0 : i = 0
  ·subst h0; exact h3
  ·have := List.pairwise_iff_getElem.1 hR k (k + i) hk (by omega) (by omega)
   omega
 have hn : ¬ n ∈ L := by
  intro h
  rw [← List.take_append_drop k L] at h
  rcases List.mem_append.1 h with h | h
  ·have := h1 n h; omega
  ·have := hd n h; omega
 unfold eW
 rw [if_neg hn]
 have e1 : L.takeWhile (fun x => decide (x < n)) = L.take k := by
  conv => lhs; rw [← List.take_append_drop k L]
  rw [List.takeWhile_append_of_pos (fun x hx => by simpa using h1 x hx)]
  cases hdk : L.drop k with
  | nil => simp
  | cons y ys =>
   have : ¬ y < n := by have := hd y (by rw [hdk]; simp); omega
   rw [List.takeWhile_cons_of_neg (by simpa using this), List.append_nil]
 have e2 : L.dropWhile (fun x => decide (x < n)) = L.drop k := by
  have h3 := List.takeWhile_append_dropWhile (p := fun x => decide (x < n)) (l := L)
  rw [e1] at h3
  have h4 := List.take_append_drop k L
  exact List.append_cancel_left (h3.trans h4.symm)
 rw [e1, e2, List.append_assoc]
 rfl
theorem tP (L : List Int) (n : Int) : (eW L n).length ≤ L.length + 1 := by
 unfold eW
 split
 ·omega
 ·have h := congrArg List.length (List.takeWhile_append_dropWhile (p := fun x => decide (x < n)) (l := L))
  rw [List.length_append] at h
  rw [List.length_append, List.length_cons]
  omega
theorem pR (l : List Int) : (cC l).length ≤ l.length := by
 have key : ∀ (l m : List Int), (l.foldl eW m).length ≤ m.length + l.length := by
  intro l
  induction l with
  | nil => intro m; simp
  | cons x l ih =>
   intro m
   have h1 := ih (eW m x)
   have h2 := tP m x
   rw [List.foldl_cons, List.length_cons]
   omega
 have := key l []
 unfold cC
 simpa using this
theorem nO (l : List Int) (n : Int) : cC (l ++ [n]) = eW (cC l) n := by unfold cC; rw [List.foldl_append]; rfl
theorem qd (w : World) (ao : Option Addr) (N cap m : Nat) (hm : m ≤ cap) : (Instr.sliceAt 42 (.slice ao N cap) none (some (.int .i64 m)) none).run Tryz.prog w = .ok (sliced ao 0 m cap 1) w := by
 have ht : Tryz.prog.underlying 42 = some (.slice (Tryz.prog.elem 42)) := by kernel_rfl
 have hz : (Go.sizeOf (Tryz.prog.elem 42)).run Tryz.prog w = .ok 1 w := by kernel_rfl
 rw [run_sliceAt_slice w 42 _ _ _ _ ht, run_slice_h w 42 ao N cap ht .i64 m (by omega) (by omega), hz]
 rfl
theorem qm (w : World) (ao : Option Addr) (N cap m : Nat) (hm : m ≤ N) : (Instr.sliceAt 42 (.slice ao N cap) (some (.int .i64 m)) none none).run Tryz.prog w = .ok (sliced ao m N cap 1) w := by
 have ht : Tryz.prog.underlying 42 = some (.slice (Tryz.prog.elem 42)) := by kernel_rfl
 have hz : (Go.sizeOf (Tryz.prog.elem 42)).run Tryz.prog w = .ok 1 w := by kernel_rfl
 rw [run_sliceAt_slice w 42 _ _ _ _ ht, run_slice_l w 42 ao N cap ht .i64 m (by omega) (by omega), hz]
 rfl
section
variable {ops : Array Oper} {rest : List Oper} {o : Oper} {a : Act} {w : World} {Q : Exit → Act → World → Prop} {D : PH} {ao : Option Addr} {N cap : Nat} {L : List Int}
theorem iK (hgd : o.guard = none) (x y : Operand) (ho : o.op = .slice 42 x none (some y) none) (m : Nat) (hx : a.eval x = .slice ao N cap) (hy : a.eval y = .int .i64 m) (h : j8 D (.slice ao N cap) L) (hl : L.length = N) (hm : m ≤ N)
  (k : ∀ v, j8 D v (L.take m) → wpList Tryz.prog ops Q rest (a.put o.dst v) w) : wpList Tryz.prog ops Q (o :: rest) a w :=
 wpList_plain hgd fun _ hK => by
  have hc : m ≤ cap := by
   obtain ⟨_, _, _, _, h3, h4, _⟩ := h
   cases h3
   omega
  have hrun := qd w ao N cap m hc
  unfold Oper.wp execOp
  simp only [ho, Option.map_none, Option.map_some, hx, hy, Sem.run_bind, Sem.run_pure, Result.andThen_ok, hrun]
  refine hK _ _ (k _ ?_)
  have h1 : RdP D 1 (.slice ao N cap) L.length (L.map (Value.int .i64)) := h
  rw [hl] at h1
  have h2 := h1.cut (Nat.zero_le m) hm
  show RdP D 1 _ (L.take m).length ((L.take m).map (Value.int .i64))
  rw [List.length_take, hl, Nat.min_eq_left hm, List.map_take]
  simpa using h2
theorem iG (hgd : o.guard = none) (x y : Operand) (ho : o.op = .slice 42 x (some y) none none) (m : Nat) (hx : a.eval x = .slice ao N cap) (hy : a.eval y = .int .i64 m) (h : j8 D (.slice ao N cap) L) (hl : L.length = N) (hm : m ≤ N)
  (k : ∀ v, j8 D v (L.drop m) → wpList Tryz.prog ops Q rest (a.put o.dst v) w) : wpList Tryz.prog ops Q (o :: rest) a w :=
 wpList_plain hgd fun _ hK => by
  have hrun := qm w ao N cap m hm
  unfold Oper.wp execOp
  simp only [ho, Option.map_none, Option.map_some, hx, hy, Sem.run_bind, Sem.run_pure, Result.andThen_ok, hrun]
  refine hK _ _ (k _ ?_)
  have h1 : RdP D 1 (.slice ao N cap) L.length (L.map (Value.int .i64)) := h
  rw [hl] at h1
  have h2 := h1.cut hm (Nat.le_refl N)
  show RdP D 1 _ (L.drop m).length ((L.drop m).map (Value.int .i64))
  rw [List.length_drop, hl, List.map_drop]
  rw [List.take_of_length_le (by rw [List.length_map]; omega), Nat.mul_one] at h2
  exact h2
end
def rI (B : World) (D : PH) (l : List HP) (L : List Int) (r : Ending) (w' : World) : Prop := ∃ (v : Value) (D' : PH), r = .returned v ∧ PH.le D D' ∧ j8 D' v L ∧ Sat B D' w' l
theorem iy (l : List Int) : ∀ u ∈ l.map (Value.int .i64), u.oneCell' = true := fun u hu => by
 obtain ⟨n, _, rfl⟩ := List.mem_map.1 hu
 rfl
theorem tl {B w : World} {D : PH} {l : List HP} {v : Value} {L : List Int} (n : Int) (hR : lN L) (h : j8 D v L) (hM : L.length ≤ 1000) (s : Sat B D w l) :
  Calls Tryz.prog 70 #[v, .int .i64 n] w (rI B D l (eW L n)) := by
 obtain ⟨i0, hi, hz0, hz1, hz2⟩ := info_parts iu
 have HI := Eh (And.intro hi (And.intro hz0 (And.intro hz1 hz2)))
 obtain ⟨va, vc, rfl⟩ := h.shape
 have HH := Eh h
 have HS := Eh s
 have HR := Eh hR
 clear h s hR hi hz0 hz1 hz2
 go_enter Tryz.func70, Tryz.ntmps70
 go_wp2_with fail
 go_loopw [5] (fun ii wr => ∃ k : Nat, ii = .int .i64 k ∧ k ≤ L.length ∧ (∀ x ∈ L.take k, x < n) ∧ wr = w) (fun ii _ => L.length - (intOf ii).toNat)
 case atStart => exact ⟨0, rfl, by omega, fun x hx => by simp at hx, rfl⟩
 case round =>
  obtain ⟨k, rfl, hk, hlt, rfl⟩ := hrel
  have CQ := Eh hlt
  clear hlt
  by_cases hkl : k < L.length
  ·have hki : (k : Int) < (L.length : Int) := by omega
   obtain ⟨d, hd⟩ : ∃ d, L[k]? = some d := ⟨L[k]'hkl, List.getElem?_eq_getElem _⟩
   obtain ⟨g, og, cc, hva, hcell⟩ := intAtE (HH.out.rd HS.out) hd
   have hva1 := (Value.slice.inj hva).1
   subst hva1
   have Bc := Eh hd
   clear hd hva
   by_cases hdn : d < n
   ·go_wp2_with fail
    go_roundw
    case rel => exact ⟨k + 1, by go_num, by omega, fun y hy => by
     rw [List.take_add_one, Bc.out] at hy
     rcases List.mem_append.1 hy with hy | hy
     ·exact CQ.out y hy
     ·simp at hy; rw [hy]; exact hdn, by first | rfl | trivial⟩
    case measure => simp [intOf]; omega
   ·by_cases hde : d = n
    ·subst hde
     have HP := Eh (show eW L d = L by unfold eW; rw [if_pos (List.mem_of_getElem? Bc.out)])
     go_wp2_with fail
     go_ret
     exact ⟨_, D, rfl, PH.le.refl _, by rw [HP.out]; exact HH.out, HS.out⟩
    ·have hde2 : (d == n) = false := by simpa using hde
     have HP := Eh (tJ HR.out CQ.out (fun y hy => by rw [Bc.out] at hy; cases hy; omega))
     clear hde
     focus
      go_upto_region 6 with fail
      clear hde2 hcell hdn hki
     all_goals skip
     have xk := Eh (HS.out.own_nil 3 1)
     go_upto_region 8 with (first | (refine iK rfl _ _ rfl k rfl rfl HH.out rfl hk ?_; intro v5 hv5; have B2 := Eh (hv5.rd xk.out); clear hv5) | (at_builtin; refine au _ rfl _ _ 42 rfl 3 i0 _ 1 8 Tryz.underlying42 HI.out.1 HI.out.2.1 HI.out.2.2.1 HI.out.2.2.2 rfl _ 0 _ rfl xk.out _ (L.take k).length _ rfl B2.out (iy _) (by unfold maxLen; (try simp only [List.length_take, List.length_drop]); omega) (by (try simp only [List.length_take, List.length_drop]); omega) ?_; intro v6 w6 hs6 h6; have vi := Eh hs6; clear hs6 h6 xk B2))
     have vn := Eh ((vi.out.alloc #[.int .i64 n] 3).front 1 rfl)
     have vk := Eh (aS (size := 1) (n := 1) (vn.out.blk 1 rfl) rfl (by unfold maxLen; omega))
     clear vi
     go_upto_region 9 with (at_builtin; refine au _ rfl _ _ 42 rfl 3 i0 _ 1 8 Tryz.underlying42 HI.out.1 HI.out.2.1 HI.out.2.2.1 HI.out.2.2.2 rfl _ (0 + (L.take k).length) _ rfl vn.out _ 1 _ rfl vk.out (by intro u hu; simp at hu; subst hu; rfl) (by unfold maxLen; (try simp only [List.length_take, List.length_drop]); omega) (by (try simp only [List.length_take, List.length_drop]); omega) ?_; intro v8 w8 hs8 h8; have vw := Eh hs8; clear hs8 h8 vn vk)
     go_wp2_with (first | (refine iG rfl _ _ rfl k rfl rfl HH.out rfl hk ?_; intro v9 hv9; have B3 := Eh (hv9.rd vw.out); clear hv9) | (at_builtin; refine au _ rfl _ _ 42 rfl 3 i0 _ 1 8 Tryz.underlying42 HI.out.1 HI.out.2.1 HI.out.2.2.1 HI.out.2.2.2 rfl _ (0 + (L.take k).length + 1) _ rfl vw.out _ (L.drop k).length _ rfl B3.out (iy _) (by unfold maxLen; (try simp only [List.length_take, List.length_drop]); omega) (by (try simp only [List.length_take, List.length_drop]); omega) ?_; intro v10 w10 hs10 h10; have vo := Eh hs10; clear hs10 h10 vw B3))
     go_ret
     have e1 : (eW L n).length = 0 + (L.take k).length + 1 + (L.drop k).length := by rw [HP.out]; simp only [List.length_append, List.length_singleton]; omega
     obtain ⟨D', hle, hrd, hs11⟩ := (show Sat B D w10 (aI 3 1 v10 (eW L n).length ((eW L n).map (Value.int .i64)) :: _) by rw [e1, HP.out, List.map_append, List.map_append]; have h9 := vo.out; simpa using h9).own_give
     exact ⟨_, D', rfl, hle, hrd, hs11.drop⟩
  ·have hki : ¬ ((k : Int) < (L.length : Int)) := by omega
   obtain rfl : k = L.length := by omega
   have HP := Eh (tJ HR.out CQ.out (fun y hy => by rw [List.getElem?_eq_none (Nat.le_refl _)] at hy; cases hy))
   go_upto_region 6 with fail
   clear hki
   have hk' : L.length ≤ L.length := Nat.le_refl _
   have xk := Eh (HS.out.own_nil 3 1)
   go_upto_region 8 with (first | (refine iK rfl _ _ rfl L.length rfl rfl HH.out rfl hk' ?_; intro v5 hv5; have B2 := Eh (hv5.rd xk.out); clear hv5) | (at_builtin; refine au _ rfl _ _ 42 rfl 3 i0 _ 1 8 Tryz.underlying42 HI.out.1 HI.out.2.1 HI.out.2.2.1 HI.out.2.2.2 rfl _ 0 _ rfl xk.out _ (L.take L.length).length _ rfl B2.out (iy _) (by unfold maxLen; (try simp only [List.length_take, List.length_drop]); omega) (by (try simp only [List.length_take, List.length_drop]); omega) ?_; intro v6 w6 hs6 h6; have vi := Eh hs6; clear hs6 h6 xk B2))
   have vn := Eh ((vi.out.alloc #[.int .i64 n] 3).front 1 rfl)
   have vk := Eh (aS (size := 1) (n := 1) (vn.out.blk 1 rfl) rfl (by unfold maxLen; omega))
   clear vi
   go_upto_region 9 with (at_builtin; refine au _ rfl _ _ 42 rfl 3 i0 _ 1 8 Tryz.underlying42 HI.out.1 HI.out.2.1 HI.out.2.2.1 HI.out.2.2.2 rfl _ (0 + (L.take L.length).length) _ rfl vn.out _ 1 _ rfl vk.out (by intro u hu; simp at hu; subst hu; rfl) (by unfold maxLen; (try simp only [List.length_take, List.length_drop]); omega) (by (try simp only [List.length_take, List.length_drop]); omega) ?_; intro v8 w8 hs8 h8; have vw := Eh hs8; clear hs8 h8 vn vk)
   go_wp2_with (first | (refine iG rfl _ _ rfl L.length rfl rfl HH.out rfl hk' ?_; intro v9 hv9; have B3 := Eh (hv9.rd vw.out); clear hv9) | (at_builtin; refine au _ rfl _ _ 42 rfl 3 i0 _ 1 8 Tryz.underlying42 HI.out.1 HI.out.2.1 HI.out.2.2.1 HI.out.2.2.2 rfl _ (0 + (L.take L.length).length + 1) _ rfl vw.out _ (L.drop L.length).length _ rfl B3.out (iy _) (by unfold maxLen; (try simp only [List.length_take, List.length_drop]); omega) (by (try simp only [List.length_take, List.length_drop]); omega) ?_; intro v10 w10 hs10 h10; have vo := Eh hs10; clear hs10 h10 vw B3))
   go_ret
   have e1 : (eW L n).length = 0 + (L.take L.length).length + 1 + (L.drop L.length).length := by rw [HP.out]; simp only [List.length_append, List.length_singleton]; omega
   obtain ⟨D', hle, hrd, hs11⟩ := (show Sat B D w10 (aI 3 1 v10 (eW L n).length ((eW L n).map (Value.int .i64)) :: _) by rw [e1, HP.out, List.map_append, List.map_append]; have h9 := vo.out; simpa using h9).own_give
   exact ⟨_, D', rfl, hle, hrd, hs11.drop⟩
def ClmsRd (w : World) (v : Value) (cs : List ClmE) : Prop := Rd w 16 v cs.length (cs.flatMap ClmE.cells) ∧ ∀ c ∈ cs, RdCl w c
theorem ClmsRd.kept {w w' : World} {v : Value} {cs : List ClmE} (h : ClmsRd w v cs) (k : Kept (fun _ => False) w w') : ClmsRd w' v cs := ⟨h.1.kept k (fun _ _ h => h), fun e he => (h.2 e he).kept k⟩
theorem sO {w : World} {v1 v2 : Value} {cs ds : List ClmE} (h1 : ClmsRd w v1 cs) (h2 : ClmsRd w v2 ds) (he : cs.map ClmE.c = ds.map ClmE.c) :
  Calls Tryz.prog 21 #[v1, v2] w fun r w' => r = .returned (.bool true) ∧ Kept (fun _ => False) w w' := by
 have hl : cs.length = ds.length := by have := congrArg List.length he; simpa using this
 obtain ⟨_, n1, a1, c1, rfl, _⟩ := id h1.1
 obtain ⟨_, n2, a2, c2, rfl, _⟩ := id h2.1
 rw [← hl] at h2
 unfold maxLen at n1 n2
 have H1 := Eh h1
 have H2 := Eh h2
 have yP := Eh he
 have Ar := Eh hl
 rw [← hl]
 obtain ⟨N, hN⟩ : ∃ N, cs.length = N := ⟨_, rfl⟩
 have HN := Eh hN
 rw [hN] at H1 H2 n1 ⊢
 clear h1 h2 he hl hN n2
 go_enter Tryz.func21, Tryz.ntmps21
 go_wp2_with fail
 go_loopw [5] (fun ii wr => ∃ j : Nat, ii = .int .i64 j ∧ j ≤ N ∧ Kept (fun _ => False) w wr) (fun ii _ => N - (intOf ii).toNat)
 case atStart => exact ⟨0, rfl, by omega, Kept.refl _ _⟩
 case round =>
  obtain ⟨j, rfl, hj, hk⟩ := hrel
  have HK := Eh hk
  clear hk
  by_cases hlt : j < N
  ·have hji : (j : Int) < (N : Int) := by omega
   obtain ⟨x, hx⟩ : ∃ x, cs[j]? = some x := ⟨cs[j]'(by rw [HN.out]; exact hlt), List.getElem?_eq_getElem _⟩
   obtain ⟨y, hy⟩ : ∃ y, ds[j]? = some y := ⟨ds[j]'(by rw [← Ar.out, HN.out]; exact hlt), List.getElem?_eq_getElem _⟩
   have hxy : x.c = y.c := by
    have := congrArg (fun l => l[j]?) yP.out
    simpa [List.getElem?_map, hx, hy] using this
   obtain ⟨g, o, hg, hr⟩ := aF ClmE.len (w := wr) (by have := (H1.out.kept HK.out).1; rw [HN.out] at this; exact this) hx HN.out
   obtain ⟨g2, o2, hg2, hr2⟩ := aF ClmE.len (w := wr) (by have := (H2.out.kept HK.out).1; rw [← Ar.out, HN.out] at this; exact this) hy (by rw [← Ar.out]; exact HN.out)
   have B4 := Eh (mI (w := wr.drew) ((H1.out.kept HK.out).2 x (List.mem_of_getElem? hx)).drew ((H2.out.kept HK.out).2 y (List.mem_of_getElem? hy)).drew hxy)
   subst hg
   subst hg2
   have vG := Eh (az (w := wr.drew) hr)
   have vV := Eh (az (w := wr.drew) hr2)
   clear hx hy hxy hr hr2
   go_upto_region 6 with fail
   refine ag [(0, false, 8), (1, false, 8), (2, false, 8), (3, false, 8), (4, false, 8), (5, false, 8), (6, false, 8), (7, false, 8), (8, true, 0), (9, false, 999)] (by kernel_rfl) (by kernel_rfl) ?_
   iterate 8 (refine af rfl rfl (fun K hK => ?_); (first | ((refine aj _ _ rfl _ _ rfl _ vG.out ?_); go_simp) | ((refine aj _ _ rfl _ _ rfl _ vV.out ?_); go_simp) | go_simp); refine hK _ ?_; clear hK K)
   refine al rfl ?_
   refine aw rfl (fun K hK => ?_)
   go_simp
   refine B4.out.mono ?_
   rintro e4 w4 ⟨rfl, hk4⟩
   have wy := Eh (HK.out.drew.trans hk4 (fun _ h => h.elim))
   clear hk4 B4 vG vV
   refine hK _ _ ?_
   clear hK K
   refine wpList_nil ?_
   refine And.intro ?_ ?_
   ·go_simp
   refine af rfl rfl (fun K hK => ?_); (first | ((refine aj _ _ rfl _ _ rfl _ vG.out ?_); go_simp) | ((refine aj _ _ rfl _ _ rfl _ vV.out ?_); go_simp) | go_simp); refine hK _ ?_; clear hK K
   refine ar ?_
   go_wp2_with fail
   go_roundw
   case rel => exact ⟨j + 1, by go_num, by omega, wy.out⟩
   case measure => simp [intOf]; omega
  ·have hji : ¬ ((j : Int) < (N : Int)) := by omega
   go_wp2_with fail
   go_ret
   exact ⟨rfl, HK.out⟩
noncomputable def gl (Q : Qm Clm) (o : Int) (i : Nat) : List Int := match bJ Q.waits o with
 | some k => if k < i then cC (db RC Q o) else []
 | none => []
theorem qo (Q : Qm Clm) (o : Int) : gl Q o 0 = [] := by
 unfold gl
 split
 ·rw [if_neg (by omega)]
 ·rfl
theorem rV (Q : Qm Clm) (o : Int) : gl Q o Q.waits.length = cC (db RC Q o) := by
 unfold gl
 split
 ·rename_i k h
  obtain ⟨e, he, _⟩ := ey h
  rw [if_pos (List.getElem?_eq_some_iff.1 he).1]
 ·rename_i h
  rw [jo h]; rfl
theorem uI {Q : Qm Clm} {o : Int} {i : Nat} {e : Ent Clm} (he : Q.waits[i]? = some e) (ho : e.o ≠ o) : gl Q o (i + 1) = gl Q o i := by
 unfold gl
 split
 ·rename_i k h
  obtain ⟨f, hf, hfo⟩ := ey h
  have : k ≠ i := fun h => by subst h; rw [he] at hf; cases hf; exact ho hfo
  by_cases hk : k < i
  ·rw [if_pos (by omega), if_pos hk]
  ·rw [if_neg (by omega), if_neg hk]
 ·rfl
theorem sL {Q : Qm Clm} (hok : QOk Q) {o : Int} {i : Nat} {e : Ent Clm} (he : Q.waits[i]? = some e) (ho : e.o = o) : bJ Q.waits o = some i := by
 cases h : bJ Q.waits o with
 | none =>
  exfalso
  exact eQ (by rw [h]; rfl) e (List.mem_of_getElem? he) ho
 | some k =>
  obtain ⟨f, hf, hfo⟩ := ey h
  obtain ⟨hk, rfl⟩ := List.getElem?_eq_some_iff.1 hf
  obtain ⟨hi, rfl⟩ := List.getElem?_eq_some_iff.1 he
  rcases Nat.lt_trichotomy k i with h1 | h1 | h1
  ·exact absurd (hfo.trans ho.symm) (List.pairwise_iff_getElem.1 hok.once k i hk hi h1)
  ·rw [h1]
  ·exact absurd (ho.trans hfo.symm) (List.pairwise_iff_getElem.1 hok.once i k hi hk h1)
theorem sF {Q : Qm Clm} (hok : QOk Q) {o : Int} {i : Nat} {e : Ent Clm} (he : Q.waits[i]? = some e) (ho : e.o = o) : gl Q o i = [] ∧ gl Q o (i + 1) = cC (((Q.held ++ Q.waits.take i).filter (bd RC o e.c)).map (fun e => e.o)) := by
 have h := sL hok he ho
 unfold gl
 rw [h]
 dsimp only
 rw [if_neg (by omega), if_pos (by omega), jx h he]
 exact ⟨rfl, rfl⟩
theorem qH {B w : World} {D : PH} {l : List HP} {v : Value} {Q : Qm Clm} (o : Int) (hok : QOk Q) (hq : QueD D v Q) (hM : Q.held.length + Q.waits.length ≤ 900) (s : Sat B D w l) :
  Calls Tryz.prog 35 #[v, .int .i64 o] w (rI B D l (cC (db RC Q o))) := by
 obtain ⟨i0, hi, hz0, hz1, hz2⟩ := info_parts gJ
 have HI := Eh (And.intro hi (And.intro hz0 (And.intro hz1 hz2)))
 obtain ⟨hv, wv, hs, ws, rfl, hH, hW, hhq, hwq⟩ := hq
 obtain ⟨ha, hcp, rfl⟩ := hH.1.shape
 obtain ⟨wa, wc, rfl⟩ := hW.1.shape
 obtain ⟨W1, hW1, hs1⟩ := Sat.hide (s.alloc #[.slice ha hs.length hcp, .slice wa ws.length wc] tRq)
 have uW := Eh hW1
 have uX := Eh hs1
 have HH := Eh hH
 have wQ := Eh hW
 have xL := Eh hhq
 have xJ := Eh hwq
 have vP := Eh hok
 have Bl := Eh (show ws.length = Q.waits.length by rw [← hwq, List.length_map])
 have hhl : hs.length ≤ Q.held.length ∧ Q.held.length ≤ hs.length := by have := congrArg List.length hhq; rw [List.length_map] at this; omega
 have hwl : ws.length ≤ Q.waits.length ∧ Q.waits.length ≤ ws.length := by have := Bl.out; omega
 have hsum : hs.length + ws.length ≤ 900 := by omega
 have hhs : hs.length ≤ 100000 := by omega
 clear hs1 hW1 s hi hz0 hz1 hz2 hH hW hhq hwq hok hhl hwl hM
 go_enter Tryz.func35, Tryz.ntmps35
 go_upto_region 1 with fail
 rw [← uW.out]
 clear uW
 generalize w.heap.size = b1 at *
 go_wp2_with fail
 go_loopw [5, 6] (fun ot ii wr => ∃ (i : Nat) (D1 : PH) (ov : Value), ii = .int .i64 i ∧ ot = ov ∧ i ≤ ws.length ∧ PH.le D D1 ∧ j8 D1 ov (gl Q o i) ∧ Sat B D1 wr (blk b1 #[.slice ha hs.length hcp, .slice wa ws.length wc] tRq :: l)) (fun _ ii _ => ws.length - (intOf ii).toNat)
 case atStart => exact ⟨0, D, _, rfl, rfl, by omega, PH.le.refl _, by rw [qo]; exact RdP.nil D 1, uX.out⟩
 case round =>
  obtain ⟨i, D1, ov, rfl, rfl, hi, hle, hou, hs2⟩ := hrel
  have vz := Eh hle
  have Cj := Eh hou
  have vg := Eh hs2
  obtain ⟨q0, q1, qf⟩ := aJ (hs2.blk 0 rfl)
  clear hs2 hle hou uX
  by_cases hlt : i < ws.length
  ·have hii : (i : Int) < (ws.length : Int) := by omega
   obtain ⟨x, hx⟩ : ∃ x, ws[i]? = some x := ⟨ws[i]'hlt, List.getElem?_eq_getElem _⟩
   have Dr := Eh (show Q.waits[i]? = some (aE x) by rw [← xJ.out, List.getElem?_map, hx]; rfl)
   have HX := Eh hx
   obtain ⟨g, og, hg, _, _, y0, _, _⟩ := dQ ((wQ.out.mono vz.out).rd vg.out) rfl hx
   subst hg
   clear hx
   by_cases ho : x.o = o
   ·have hne : (x.o != o) = false := by simpa using ho
    have yz := Eh (sF vP.out Dr.out ho)
    rw [yz.out.1] at Cj
    clear ho
    have Bw := Eh (gU (HH.out.mono vz.out) hhs vg.out)
    go_upto_region 7 with (go_at_call 69; refine Bw.out.mono ?_; rintro e5 w5 ⟨va, vc, rfl, hs5⟩; have uZ := Eh hs5; clear hs5 Bw vg q0 q1 qf y0)
    obtain ⟨q0, q1, qf⟩ := aJ (uZ.out.blk 1 rfl)
    have hil : i ≤ ws.length := by omega
    have CR := Eh (wQ.out.mono vz.out)
    go_upto_region 8 with (first | (refine fj rfl _ _ rfl i rfl rfl CR.out rfl hil ?_; intro v6 hv6; have Ds := Eh (hv6.rd uZ.out).1; clear hv6) | (at_builtin; refine au _ rfl _ _ ew rfl tRe i0 _ 18 200 Tryz.underlying56 HI.out.1 HI.out.2.1 HI.out.2.2.1 HI.out.2.2.2 rfl _ hs.length _ rfl uZ.out _ (ws.take i).length _ rfl Ds.out (dD _) (by unfold maxLen; (try simp only [List.length_take]); omega) (by (try simp only [List.length_take]); omega) ?_; intro v7 w7 hs7 h7; have vn := Eh hs7; clear hs7 h7 uZ Ds q0 q1 qf))
    obtain ⟨zs, hzs⟩ : ∃ zs, zs = hs ++ ws.take i := ⟨_, rfl⟩
    have hs8 : Sat B D1 w7 (fq v7 zs :: blk b1 #[.slice ha hs.length hcp, .slice (some ⟨g, og, none⟩) ws.length wc] tRq :: l) := by
     rw [hzs]
     show Sat B D1 w7 (aI tRe 18 v7 (hs ++ ws.take i).length ((hs ++ ws.take i).flatMap ay) :: _)
     rw [List.length_append, List.flatMap_append]
     exact vn.out
    have Cc := Eh (show zs.map aE = Q.held ++ Q.waits.take i by rw [hzs, List.map_append, xL.out, List.map_take, xJ.out])
    have yH := Eh (show ∀ e ∈ zs, ClOk D e.x ∧ bV e.x.c from fun e he => by
     rw [hzs] at he
     rcases List.mem_append.1 he with he | he
     ·exact HH.out.2 e he
     ·exact wQ.out.2 e (List.mem_of_mem_take he))
    have hzl : zs.length ≤ 900 := by rw [hzs, List.length_append, List.length_take]; omega
    obtain ⟨za, zc, rfl⟩ := hs8.own_shape
    have vw := Eh hs8
    clear hs8 vn hzs
    go_wp2_with fail
    go_loopw [5, 8] (fun ot ii wr => ∃ (j : Nat) (D2 : PH) (ov2 : Value), ii = .int .i64 j ∧ ot = ov2 ∧ j ≤ zs.length ∧ PH.le D1 D2 ∧ j8 D2 ov2 (cC (bM zs o x.x.c j)) ∧ Sat B D2 wr (fq (.slice za zs.length zc) zs :: blk b1 #[.slice ha hs.length hcp, .slice (some ⟨g, og, none⟩) ws.length wc] tRq :: l)) (fun _ ii _ => zs.length - (intOf ii).toNat)
    case atStart => exact ⟨0, D1, _, rfl, rfl, by omega, PH.le.refl _, Cj.out, vw.out⟩
    case round =>
     obtain ⟨j, D2, ov2, rfl, rfl, hj, hle2, hou2, hs9⟩ := hrel
     have vv := Eh hle2
     have At := Eh hou2
     have vu := Eh hs9
     obtain ⟨q0, q1, qf⟩ := aJ (hs9.blk 1 rfl)
     clear hle2 hou2 hs9 vw
     by_cases hjl : j < zs.length
     ·have hji : (j : Int) < (zs.length : Int) := by omega
      obtain ⟨y, hy⟩ : ∃ y, zs[j]? = some y := ⟨zs[j]'hjl, List.getElem?_eq_getElem _⟩
      have HY := Eh hy
      have Dg := Eh (yH.out y (List.mem_of_getElem? hy))
      have Dt := Eh (fun (W : World) (hW : Sat B D2 W (fq (.slice za zs.length zc) zs :: blk b1 #[.slice ha hs.length hcp, .slice (some ⟨g, og, none⟩) ws.length wc] tRq :: l)) => (show EntsRd W (.slice za zs.length zc) zs from ⟨(hW.own 0 rfl).rd, fun e he => (((yH.out e he).1.mono vz.out).mono vv.out).rd hW, fun e he => (yH.out e he).2⟩))
      obtain ⟨g3, og3, hg3, _, hr3, _, hre3, hfe3⟩ := dQ (Dt.out _ vu.out) rfl hy
      obtain ⟨g4, og4, hg4, _, hr4, _, hre4, hfe4⟩ := dQ (((wQ.out.mono vz.out).mono vv.out).rd vu.out) rfl HX.out
      cases hg4
      subst hg3
      have vH := Eh (az (w := wr.drew) hr3)
      have vt := Eh (az (w := wr.drew) hr4)
      have wS := Eh (lr (w := wr.drew) hre3.drew hre4.drew hfe3 hfe4)
      clear hy hr3 hr4 hre3 hre4 hfe3 hfe4
      obtain ⟨cf, hcf⟩ : ∃ cf, RC.conf y.x.c x.x.c = cf := ⟨_, rfl⟩
      rw [hcf] at wS
      have zi := Eh (show bd RC o x.x.c (aE y) = (decide (y.o ≠ o) && cf) by unfold bd; rw [← hcf])
      clear hcf
      go_upto_region 11 with fail
      refine ag [(0, false, 11), (1, false, 11), (2, false, 11), (3, false, 11), (4, false, 11), (5, false, 11), (6, false, 11), (7, false, 11), (8, false, 11), (9, false, 11), (10, false, 11), (11, true, 0), (12, false, 999)] (by kernel_rfl) (by kernel_rfl) ?_
      iterate 11 (refine af rfl rfl (fun K hK => ?_); (first | ((refine aj _ _ rfl _ _ rfl _ vH.out ?_); go_simp) | ((refine aj _ _ rfl _ _ rfl _ vt.out ?_); go_simp) | go_simp); refine hK _ ?_; clear hK K)
      refine al rfl ?_
      refine aw rfl (fun K hK => ?_)
      go_simp
      refine wS.out.mono ?_
      rintro ea wa2 ⟨rfl, hka⟩
      have wk := Eh (vu.out.drew.kept hka)
      clear hka wS vH vt vu q0 q1 qf
      refine hK _ _ ?_
      clear hK K
      refine wpList_nil ?_
      refine And.intro ?_ ?_
      ·go_simp
      refine af rfl rfl (fun K hK => ?_); (first | ((refine aj _ _ rfl _ _ rfl _ vH.out ?_); go_simp) | ((refine aj _ _ rfl _ _ rfl _ vt.out ?_); go_simp) | go_simp); refine hK _ ?_; clear hK K
      refine ar ?_
      obtain ⟨g5, og5, hg5, _, _, y5, _, _⟩ := dQ (Dt.out _ wk.out) rfl HY.out
      cases hg5
      by_cases hyo : y.o = o
      ·have hne2 : (y.o != o) = false := by simpa using hyo
       have HT := Eh (fC (o := o) (c := x.x.c) HY.out (by rw [zi.out]; simp [hyo]))
       clear hyo
       go_wp2_with fail
       go_roundw
       case rel => exact ⟨j + 1, D2, _, by go_num, rfl, by omega, vv.out, by rw [HT.out]; exact At.out, wk.out⟩
       case measure => simp [intOf]; omega
      ·have hne2 : (y.o != o) = true := by simpa using hyo
       cases cf
       ·have HT := Eh (fC (o := o) (c := x.x.c) HY.out (by rw [zi.out]; simp))
        clear hyo
        go_wp2_with fail
        go_roundw
        case rel => exact ⟨j + 1, D2, _, by go_num, rfl, by omega, vv.out, by rw [HT.out]; exact At.out, wk.out⟩
        case measure => simp [intOf]; omega
       ·have HT := Eh (i6 (o := o) (c := x.x.c) HY.out (by rw [zi.out]; simp [hyo]))
        have hpl : (cC (bM zs o x.x.c j)).length ≤ 1000 := by have := pR (bM zs o x.x.c j); have := eV zs o x.x.c j; omega
        have BR := Eh (tl y.o (kr (bM zs o x.x.c j)) At.out hpl wk.out)
        clear hyo
        go_wp2_with (go_at_call 70; refine BR.out.mono ?_; rintro eb wb ⟨vb, D3, rfl, hle3, hou3, hsb⟩; have wl := Eh hle3; have CS := Eh hou3; have xV := Eh hsb; clear hle3 hou3 hsb BR wk y5)
        go_roundw
        case rel => exact ⟨j + 1, D3, _, by go_num, rfl, by omega, vv.out.trans wl.out, by rw [HT.out, nO]; exact CS.out, xV.out⟩
        case measure => simp [intOf]; omega
     ·have hji : ¬ ((j : Int) < (zs.length : Int)) := by omega
      have DV := Eh (show gl Q o (i + 1) = cC (bM zs o x.x.c j) by
       rw [yz.out.2]
       unfold bM
       rw [show zs.take j = zs from List.take_of_length_le (by omega), Cc.out])
      go_wp2_with fail
      go_roundw
      case rel => exact ⟨i + 1, D2, _, by go_num, rfl, by omega, vz.out.trans vv.out, by rw [DV.out]; exact At.out, vu.out.drop⟩
      case measure => simp [intOf]; omega
   ·have hne : (x.o != o) = true := by simpa using ho
    have HT := Eh (uI Dr.out ho)
    clear ho
    go_wp2_with fail
    go_roundw
    case rel => exact ⟨i + 1, D1, _, by go_num, rfl, by omega, vz.out, by rw [HT.out]; exact Cj.out, vg.out⟩
    case measure => simp [intOf]; omega
  ·have hii : ¬ ((i : Int) < (ws.length : Int)) := by omega
   obtain rfl : i = ws.length := by omega
   have HF := Eh (show gl Q o ws.length = cC (db RC Q o) by rw [Bl.out]; exact rV Q o)
   go_wp2_with fail
   go_ret
   exact ⟨_, D1, rfl, vz.out, by rw [← HF.out]; exact Cj.out, vg.out.drop⟩
end Go.Proofs.YtgljdkjepdknnaaGreatDoor
